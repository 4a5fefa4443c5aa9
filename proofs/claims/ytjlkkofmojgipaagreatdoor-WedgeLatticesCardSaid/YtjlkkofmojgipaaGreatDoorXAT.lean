import Derived.Test.YtjlkkofmojgipaaGreatDoorXAI
import Derived.Test.YtjlkkofmojgipaaGreatDoorXAE
import Derived.Test.YtjlkkofmojgipaaGreatDoorXAS
import Derived.Test.YtjlkkofmojgipaaGreatDoorXAH
set_option linter.unusedVariables false
set_option linter.unusedSimpArgs false
namespace Go.Proofs.YtjlkkofmojgipaaGreatDoor
open Go.RowKit
def sk (i a:Nat):Nat:=if a<i then a else a+1
def aQ:Nat->(Nat->Rat)->Rat
 | 0,_=>0
 | n+1,f=>aQ n f+f n
def de (i:Nat):Rat:=if i%2=0 then 1 else -1
def aU:Nat->(Nat->Nat->Rat)->Rat
 | 0,_=>1
 | n+1,M=>aQ (n+1) fun i=>de i*M i 0*aU n fun a b=>M (sk i a) (b+1)
theorem di {n:Nat} {f g:Nat->Rat} (h:∀ i,i<n->f i=g i):aQ n f=aQ n g:=by
 induction n with
 | zero=>rfl
 | succ n ih=>show aQ n f+f n=aQ n g+g n;rw [ih (fun i hi=>h i (by omega)),h n (by omega)]
theorem R4_ (n:Nat):aQ n (fun _=>0)=0:=by
 induction n with
 | zero=>rfl
 | succ n ih=>show aQ n _+0=0;rw [ih];grind
theorem nu (n:Nat) (f g:Nat->Rat):aQ n (fun i=>f i+g i)=aQ n f+aQ n g:=by
 induction n with
 | zero=>show (0:Rat)=0+0;grind
 | succ n ih=>show aQ n _+(f n+g n)=(aQ n f+f n)+(aQ n g+g n);rw [ih];grind
theorem kZ (n:Nat) (c:Rat) (f:Nat->Rat):aQ n (fun i=>c*f i)=c*aQ n f:=by
 induction n with
 | zero=>show (0:Rat)=c*0;grind
 | succ n ih=>show aQ n _+c*f n=c*(aQ n f+f n);rw [ih];grind
theorem Z4B (n:Nat) (f:Nat->Rat):aQ n (fun i=>- f i)=- aQ n f:=by
 have:=kZ n (-1) f;rw [show (-1:Rat)*aQ n f=- aQ n f by grind] at this;rw [<- this];exact di fun i _=>by grind
theorem Z2T (n m:Nat) (f:Nat->Nat->Rat):aQ n (fun i=>aQ m (fun j=>f i j))=aQ m (fun j=>aQ n (fun i=>f i j)):=by
 induction n with
 | zero=>show (0:Rat)=aQ m (fun _=>0);rw [R4_]
 | succ n ih =>
  show aQ n _+aQ m (fun j=>f n j)=aQ m (fun j=>aQ n (fun i=>f i j)+f n j);rw [ih,nu]
theorem o5_ (n:Nat) (f:Nat->Rat):aQ (n+1) f=f 0+aQ n (fun i=>f (i+1)):=by
 induction n with
 | zero=>show (0:Rat)+f 0=f 0+0;grind
 | succ n ih =>
  show aQ (n+1) f+f (n+1)=f 0+(aQ n (fun i=>f (i+1))+f (n+1));rw [ih];grind
theorem w8_ {n k:Nat} {f:Nat->Rat} (hk:k<n) (h:∀ i,i<n->i≠k->f i=0):aQ n f=f k:=by
 induction n with
 | zero=>omega
 | succ n ih =>
  show aQ n f+f n=f k;by_cases e:k=n
  ·subst e;have:aQ k f=aQ k (fun _=>0):=di fun i hi=>h i (by omega) (by omega);rw [this,R4_];grind
  ·rw [ih (by omega) (fun i hi hn=>h i (by omega) hn),h n (by omega) (by omega)];grind
def bN (r i:Nat):Nat:=if i=r then r+1 else if i=r+1 then r else i
theorem Z5G {n r:Nat} (hr:r+1<n) (f:Nat->Rat):aQ n (fun i=>f (bN r i))=aQ n f:=by
 induction n with
 | zero=>omega
 | succ n ih =>
  show aQ n _+f (bN r n)=aQ n f+f n;by_cases e:r+1=n
  ·subst e;show (aQ r _+f (bN r r))+f (bN r (r+1))=(aQ r f+f r)+f (r+1);have h1:aQ r (fun i=>f (bN r i))=aQ r f:=di fun i hi=>by unfold bN;rw [if_neg (by omega),if_neg (by omega)]
   have h2:bN r r=r+1:=by unfold bN;rw [if_pos rfl]
   have h3:bN r (r+1)=r:=by unfold bN;rw [if_neg (by omega),if_pos rfl]
   rw [h1,h2,h3];grind
  ·have h1:bN r n=n:=by unfold bN;rw [if_neg (by omega),if_neg (by omega)]
   rw [ih (by omega),h1]
theorem R2_ (i:Nat):de (i+1)=- de i:=by
 unfold de;by_cases h:i%2=0
 ·rw [if_pos h,if_neg (by omega)]
 ·rw [if_neg h,if_pos (by omega)];grind
theorem dP {n:Nat} {M N:Nat->Nat->Rat} (h:∀ a b,a<n->b<n->M a b=N a b):aU n M=aU n N:=by
 induction n generalizing M N with
 | zero=>rfl
 | succ n ih =>
  show aQ (n+1) _=aQ (n+1) _;refine di fun i hi=>?_;rw [h i 0 hi (by omega),ih (M:=fun a b=>M (sk i a) (b+1)) (N:=fun a b=>N (sk i a) (b+1)) (fun a b ha hb=>h _ _ (by unfold sk;split <;> omega) (by omega))]
def cN (M:Nat->Nat->Rat) (r:Nat) (u:Nat->Rat):Nat->Nat->Rat:=fun a b=>if a=r then u b else M a b
theorem n4_ (M:Nat->Nat->Rat) (r:Nat):cN M r (M r)=M:=by
 funext a b;unfold cN;split
 ·rename_i h;rw [h]
 ·rfl
theorem n5_ (M:Nat->Nat->Rat) (r:Nat) (u:Nat->Rat):(fun a b=>cN M r u (sk r a) (b+1))=fun a b=>M (sk r a) (b+1):=by
 funext a b;unfold cN sk;rw [if_neg (by split <;> omega)]
theorem h3_ {M:Nat->Nat->Rat} {r i:Nat} (u:Nat->Rat) (h:i≠r):(fun a b=>cN M r u (sk i a) (b+1))=cN (fun a b=>M (sk i a) (b+1)) (if r<i then r else r-1) (fun b=>u (b+1)):=by
 funext a b;unfold cN sk;show (if (if a<i then a else a+1)=r then u (b+1) else M (if a<i then a else a+1) (b+1))=if a=(if r<i then r else r-1) then u (b+1) else M (if a<i then a else a+1) (b+1)
 have:((if a<i then a else a+1)=r)=(a=(if r<i then r else r-1)):=by
  apply propext;by_cases h1:r<i <;> by_cases h2:a<i <;> simp only [h1,h2,if_true,if_false] <;> omega
 simp only [this]
theorem nC {n:Nat} (M:Nat->Nat->Rat) {r:Nat} (hr:r<n) (u v:Nat->Rat) (c:Rat) :
  aU n (cN M r fun b=>u b+c*v b)=aU n (cN M r u)+c*aU n (cN M r v):=by
 induction n generalizing M r u v with
 | zero=>omega
 | succ n ih =>
  show aQ (n+1) _=aQ (n+1) _+c*aQ (n+1) _;rw [<- kZ,<- nu];refine di fun i hi=>?_;by_cases e:i=r
  ·subst e;simp only [n5_];have h:∀ u,cN M i u i 0=u 0:=fun u=>by unfold cN;rw [if_pos rfl]
   rw [h,h,h];grind
  ·have h:∀ u,cN M r u i 0=M i 0:=fun u=>by unfold cN;rw [if_neg e]
   rw [h,h,h,h3_ _ e,h3_ _ e,h3_ _ e,ih _ (by split <;> omega)];grind
theorem M5_ {n:Nat} (M:Nat->Nat->Rat) {r:Nat} (hr:r+1<n):aU n (fun a b=>M (bN r a) b)=- aU n M:=by
 induction n generalizing M r with
 | zero=>omega
 | succ n ih =>
  show aQ (n+1) _=- aQ (n+1) _;rw [<- Z5G hr,<- Z4B];refine di fun i hi=>?_;have qN:bN r (bN r i)=i:=by unfold bN;repeat' split <;> try omega
  show de (bN r i)*M (bN r (bN r i)) 0*aU n (fun a b=>M (bN r (sk (bN r i) a)) (b+1))=-(de i*M i 0*aU n fun a b=>M (sk i a) (b+1));rw [qN];by_cases e1:i=r
  ·subst e1;have h1:bN i i=i+1:=by unfold bN;rw [if_pos rfl]
   rw [h1,R2_];have:(fun a b=>M (bN i (sk (i+1) a)) (b+1))=fun a b=>M (sk i a) (b+1):=by
    funext a b;congr 1;unfold bN sk;repeat' split <;> try omega
   rw [this];grind
  ·by_cases e2:i=r+1
   ·subst e2;have h1:bN r (r+1)=r:=by unfold bN;rw [if_neg (by omega),if_pos rfl]
    rw [h1,R2_];have:(fun a b=>M (bN r (sk r a)) (b+1))=fun a b=>M (sk (r+1) a) (b+1):=by
     funext a b;congr 1;unfold bN sk;repeat' split <;> try omega
    rw [this];grind
   ·have h1:bN r i=i:=by unfold bN;rw [if_neg e1,if_neg e2]
    rw [h1];have:(fun a b=>M (bN r (sk i a)) (b+1))=fun a b=>(fun a b=>M (sk i a) (b+1)) (bN (if r<i then r else r-1) a) b:=by
     funext a b;congr 1;unfold bN sk;repeat' split <;> try omega
    rw [this];have e:=ih (fun a b=>M (sk i a) (b+1)) (r:=if r<i then r else r-1) (by split <;> omega);rw [e];grind
def aV (i j a:Nat):Nat:=if a=i then j else if a=j then i else a
theorem K5_ {n:Nat} (M:Nat->Nat->Rat) {i j:Nat} (qK:i<j) (hj:j<n):aU n (fun a b=>M (aV i j a) b)=- aU n M:=by
 obtain ⟨d,rfl⟩:∃ d,j=i+1+d:=⟨j-i-1,by omega⟩;clear qK
 induction d generalizing M with
 | zero =>
  have:(fun a b=>M (aV i (i+1+0) a) b)=fun a b=>M (bN i a) b:=by
   funext a b;congr 1
  rw [this];exact M5_ M hj
 | succ d ih =>
  have:(fun a b=>M (aV i (i+1+(d+1)) a) b)=fun a b=>(fun a b=>(fun a b=>M (bN (i+1+d) a) b) (aV i (i+1+d) a) b) (bN (i+1+d) a) b:=by
   funext a b;congr 1;unfold aV bN;repeat' split <;> try omega
  rw [this];have e1:=M5_ (n:=n) (fun a b=>(fun a b=>M (bN (i+1+d) a) b) (aV i (i+1+d) a) b) (r:=i+1+d) (by omega);have e2:=ih (fun a b=>M (bN (i+1+d) a) b) (by omega);have e3:=M5_ (n:=n) M (r:=i+1+d) (by omega);rw [e1,e2,e3];grind
theorem p5_ {x:Rat} (h:x=-x):x=0:=by
 have:x+x=0:=by rw [show x+x=x-(-x) by grind,<- h];grind
 have:2*x=0:=by grind
 grind
theorem nB {n:Nat} {M:Nat->Nat->Rat} {i j:Nat} (hi:i<n) (hj:j<n) (hne:i≠j) (h:∀ b,b<n->M i b=M j b):aU n M=0:=by
 have key:∀ i j,i<j->j<n->(∀ b,b<n->M i b=M j b)->aU n M=0:=by
  intro i j qK hj h;have h1:=K5_ M qK hj;have h2:aU n (fun a b=>M (aV i j a) b)=aU n M:=dP fun a b ha hb=>by
   unfold aV
   split
   ·rename_i e;rw [e,h b hb]
   ·split
    ·rename_i e;rw [e,h b hb]
    ·rfl
  rw [h2] at h1;exact p5_ h1
 rcases Nat.lt_or_gt_of_ne hne with e | e
 ·exact key i j e hj h
 ·exact key j i e hi (fun b hb=>(h b hb).symm)
theorem jl {n:Nat} {M:Nat->Nat->Rat} {r:Nat} (hr:r<n) (h:∀ b,b<n->M r b=0):aU n M=0:=by
 have h1:=nC M hr (fun _=>0) (fun _=>0) (-1);have h2:aU n (cN M r fun _=>0)=aU n M:=dP fun a b ha hb=>by
  unfold cN;split
  ·rename_i e;rw [e,h b hb]
  ·rfl
 rw [show (fun b:Nat=>(0:Rat)+-1*0)=fun _=>0 by funext b;grind,h2] at h1;grind
theorem a7_ {n:Nat} (M:Nat->Nat->Rat) {r:Nat} (hr:r<n) (c:Rat):aU n (cN M r fun b=>c*M r b)=c*aU n M:=by
 have h1:=nC M hr (fun _=>0) (M r) c;rw [n4_,jl (M:=cN M r fun _=>0) hr (fun b _=>by unfold cN;rw [if_pos rfl])] at h1;rw [show (fun b=>c*M r b)=fun b=>(0:Rat)+c*M r b by funext b;grind,h1];grind
theorem m7_ {n:Nat} (M:Nat->Nat->Rat) {r s:Nat} (hr:r<n) (hs:s<n) (hne:r≠s) (c:Rat):aU n (cN M r fun b=>M r b+c*M s b)=aU n M:=by
 rw [nC M hr (M r) (M s) c,n4_,nB (M:=cN M r (M s)) hr hs hne (fun b _=>by unfold cN;rw [if_pos rfl,if_neg (by omega)])];grind
def lp:Nat->(Nat->Nat->Rat)->Rat
 | 0,_=>1
 | n+1,M=>aQ (n+1) fun j=>de j*M 0 j*lp n fun a b=>M (a+1) (sk j b)
theorem Z5a (n:Nat) (M:Nat->Nat->Rat):lp n M=aU n fun a b=>M b a:=by
 induction n generalizing M with
 | zero=>rfl
 | succ n ih =>
  show aQ (n+1) _=aQ (n+1) _;refine di fun i hi=>?_;rw [ih]
theorem N5_ (i:Nat):sk (i+1) 0=0:=by unfold sk;rw [if_pos (by omega)]
theorem Z2L (i a:Nat):sk (i+1) (a+1)=sk i a+1:=by
 unfold sk;by_cases h:a<i
 ·rw [if_pos h,if_pos (by omega)]
 ·rw [if_neg h,if_neg (by omega)]
theorem ln:∀ (n:Nat) (M:Nat->Nat->Rat),aU n M=lp n M/\aU (n+1) M=lp (n+1) M
 | 0,M=>⟨rfl,rfl⟩
 | n+1,M=>by
  refine ⟨(ln n M).2,?_⟩;have h1:aU (n+2) M=de 0*M 0 0*aU (n+1) (fun a b=>M (a+1) (b+1))+aQ (n+1) fun i=>aQ (n+1) fun j=>de (i+1)*M (i+1) 0*(de j*M 0 (j+1)*aU n (fun a b=>M (sk i a+1) (sk j b+1))):=by
   show aQ (n+2) _=_;rw [o5_];congr 1;refine di fun i hi=>?_;rw [kZ];congr 1;rw [(ln n _).2];show aQ (n+1) _=aQ (n+1) _;refine di fun j hj=>?_;rw [<- (ln n _).1];simp only [Z2L,N5_]
  have h2:lp (n+2) M=de 0*M 0 0*lp (n+1) (fun a b=>M (a+1) (b+1))+aQ (n+1) fun j=>aQ (n+1) fun i=>de (j+1)*M 0 (j+1)*(de i*M (i+1) 0*aU n (fun a b=>M (sk i a+1) (sk j b+1))):=by
   show aQ (n+2) _=_;rw [o5_];congr 1;refine di fun j hj=>?_;rw [kZ];congr 1;rw [<- (ln n _).2];show aQ (n+1) _=aQ (n+1) _;refine di fun i hi=>?_;simp only [Z2L,N5_]
  rw [h1,h2,<- (ln n _).2];congr 1;rw [Z2T];refine di fun j hj=>di fun i hi=>?_;rw [R2_,R2_];grind
theorem eW (n:Nat) (M:Nat->Nat->Rat):aU n (fun a b=>M b a)=aU n M:=by
 rw [<- Z5a,(ln n M).1]
theorem T5_ {n:Nat} {M:Nat->Nat->Rat} (h:∀ a,a<n->M a n=0):aU (n+1) M=M n n*aU n M:=by
 induction n generalizing M with
 | zero=>show (0:Rat)+de 0*M 0 0*1=M 0 0*1;unfold de;rw [if_pos rfl];grind
 | succ n ih =>
  show aQ (n+1) _+de (n+1)*M (n+1) 0*aU (n+1) (fun a b=>M (sk (n+1) a) (b+1))=M (n+1) (n+1)*aQ (n+1) _;have h0:aU (n+1) (fun a b=>M (sk (n+1) a) (b+1))=0:=by
   rw [<- eW];refine jl (r:=n) (by omega) fun b hb=>?_;show M (sk (n+1) b) (n+1)=0;exact h _ (by unfold sk;rw [if_pos hb];exact hb)
  rw [h0,<- kZ];rw [show ∀ x y:Rat,x+y*0=x by intros;grind];refine di fun i hi=>?_;rw [ih (M:=fun a b=>M (sk i a) (b+1)) (fun a ha=>h _ (by unfold sk;split <;> omega))];have:sk i n=n+1:=by unfold sk;rw [if_neg (by omega)]
  simp only [this];grind
theorem A7_ (n:Nat):aU n (fun a b=>if a=b then 1 else 0)=1:=by
 induction n with
 | zero=>rfl
 | succ n ih =>
  rw [T5_ (fun a ha=>if_neg (by omega)),ih];simp
theorem Z3m {n:Nat} (M:Nat->Nat->Rat) {r:Nat} (hr:r<n) (u v:Nat->Rat) (c:Rat) :
  aU n (fun a b=>if b=r then u a+c*v a else M a b)=aU n (fun a b=>if b=r then u a else M a b)+c*aU n (fun a b=>if b=r then v a else M a b):=by
 have h:=nC (fun a b=>M b a) hr u v c;rw [<- eW,<- eW n (fun a b=>if b=r then u a else M a b),<- eW n (fun a b=>if b=r then v a else M a b)];exact h
theorem X0_ {n:Nat} {M:Nat->Nat->Rat} {i j:Nat} (hi:i<n) (hj:j<n) (hne:i≠j) (h:∀ b,b<n->M b i=M b j):aU n M=0:=by
 rw [<- eW];exact nB hi hj hne h
theorem Z8_ {n:Nat} (M:Nat->Nat->Rat) {r:Nat} (hr:r<n) (u:Nat->Rat) (m:Nat) (f:Nat->Rat) (v:Nat->Nat->Rat) :
  aU n (fun a b=>if b=r then u a+aQ m (fun l=>f l*v l a) else M a b)=aU n (fun a b=>if b=r then u a else M a b)+aQ m (fun l=>f l*aU n (fun a b=>if b=r then v l a else M a b)):=by
 induction m with
 | zero =>
  show aU n (fun a b=>if b=r then u a+0 else M a b)=_+(0:Rat);rw [show (fun a b=>if b=r then u a+0 else M a b)=fun a b=>if b=r then u a else M a b by funext a b;split <;> grind];grind
 | succ m ih =>
  show aU n (fun a b=>if b=r then u a+(aQ m (fun l=>f l*v l a)+f m*v m a) else M a b)=_+(aQ m _+f m*_);rw [show (fun a b=>if b=r then u a+(aQ m (fun l=>f l*v l a)+f m*v m a) else M a b)=fun a b=>if b=r then (u a+aQ m (fun l=>f l*v l a))+f m*v m a else M a b by funext a b;split <;> grind];rw [Z3m M hr (fun a=>u a+aQ m (fun l=>f l*v l a)) (v m) (f m),ih];grind
theorem d6_ {m:List (List Rat)} {k:Nat} (r:List Rat) (hk:k<m.length) (i:Nat):cQ (m.set k r) i=if i=k then r else cQ m i:=by
 unfold cQ;rw [oC,oV];by_cases h:i=k
 ·subst h;rw [if_pos rfl,if_pos rfl,if_pos hk];rfl
 ·rw [if_neg (by omega),if_neg h,oC]
theorem s0_ (r:List Rat) (q:Rat) (x:Nat):(dV r q).getD x 0=r.getD x 0 / q:=by
 unfold dV;rw [oC,oC,oE];cases r[x]? with
 | none=>show (0:Rat)=0 / q;rw [Rat.div_def,Rat.zero_mul]
 | some y=>rfl
theorem Z2S {r s:List Rat} (f:Rat) (h:s.length=r.length) (x:Nat):(fl r s f).getD x 0=r.getD x 0-f*s.getD x 0:=by
 unfold fl;rw [oC,oC,oC,List.getElem?_zipWith];by_cases hx:x<r.length
 ·rw [n9 hx,n9 (by omega:x<s.length)];rfl
 ·rw [oK (by omega:r.length<=x),oK (by omega:s.length<=x)];show (0:Rat)=0-f*0;grind
theorem Z3r {p:List Rat} {c k i:Nat} {r:List Rat} (h:p.length=r.length) (x:Nat):(ie p c k i r).getD x 0=if i=k then r.getD x 0 else r.getD x 0-r.getD c 0*p.getD x 0:=by
 unfold ie;by_cases hi:i=k
 ·rw [if_pos (.inl hi),if_pos hi]
 ·rw [if_neg hi];by_cases h0:r.getD c 0=0
  ·rw [if_pos (.inr h0),h0];grind
  ·rw [if_neg (by simp [hi];exact h0),Z2S _ h]
theorem s3_ {C:Nat} {m:List (List Rat)} {p:List Rat} {c k:Nat} (hR:bg C m) (hp:p.length=C) (x:Nat) :
  ∀ j,j<=m.length->∀ i,aH (da m p c k j) i x=if i<j/\i≠k then aH m i x-aH m i c*p.getD x 0 else aH m i x
 | 0,_,i=>by rw [if_neg (by omega)];rfl
 | j+1,hj,i=>by
  have ih:=s3_ (c:=c) (k:=k) hR hp x j (by omega) i;show aH ((da m p c k j).set j (ie p c k j (cQ (da m p c k j) j))) i x=_;have hrow:cQ (da m p c k j) j=cQ m j:=by
   unfold cQ;rw [oC,V0_ m p c k j j (oJ _),<- oC]
  have hl:p.length=(cQ m j).length:=by rw [hp];exact (hR.get (iH (by omega))).symm
  unfold aH at ih |-;rw [d6_ _ (by rw [kF];omega),hrow];by_cases e:i=j
  ·subst e;rw [if_pos rfl,Z3r hl];by_cases h:i=k
   ·rw [if_pos h,if_neg (by simp [h])]
   ·rw [if_neg h,if_pos ⟨by omega,h⟩]
  ·rw [if_neg e,ih];by_cases h:i<j/\i≠k
   ·rw [if_pos h,if_pos ⟨by omega,h.2⟩]
   ·rw [if_neg h,if_neg (by rintro ⟨h1,h2⟩;exact h ⟨by omega,h2⟩)]
theorem lS (r i:Nat):aV r r i=i:=by unfold aV;repeat' split <;> try omega
theorem w7_ {C c:Nat} {s:fb} (hR:bg C s.m) (hk:s.lead.length<=s.m.length) :
  (bI c s=⟨s.m,s.lead,0⟩/\∀ i,s.lead.length<=i->aH s.m i c=0) \/
  ∃ a,s.lead.length<=a/\a<s.m.length/\aH s.m a c≠0/\(∀ j,s.lead.length<=j->j<a->aH s.m j c=0) /\
   (bI c s).lead=s.lead++[c]/\(bI c s).m.length=s.m.length/\(bI c s).det=(if a=s.lead.length then s.det else -s.det)*aH s.m a c /\
   ∀ i j,aH (bI c s).m i j=if i=s.lead.length then aH s.m a j / aH s.m a c else aH s.m (aV s.lead.length a i) j-aH s.m (aV s.lead.length a i) c*(aH s.m a j / aH s.m a c):=by
 obtain ⟨h1,h2,h3,h4⟩:=D0_ s.m c (s.m.length-s.lead.length) s.lead.length;unfold bI;simp only;generalize ha:fC s.m c (s.m.length-s.lead.length) s.lead.length=a at *
 by_cases e:a=s.m.length
 ·refine .inl ⟨by rw [if_pos e],fun i hi=>?_⟩;by_cases hl:i<s.m.length
  ·exact h3 i hi (by omega)
  ·exact nG (by omega)
 ·rw [if_neg e];have pN:a<s.m.length:=by omega
  have hne:=h4 (by omega);refine .inr ⟨a,h1,pN,hne,h3,rfl,?_⟩;have hm1:∀ i j,aH (if a=s.lead.length then s.m else bK s.m s.lead.length a) i j=aH s.m (aV s.lead.length a i) j:=by
   intro i j;by_cases hr:a=s.lead.length
   ·rw [if_pos hr,hr,lS]
   ·rw [if_neg hr,l0_ (by omega) pN];congr 1;unfold aV;repeat' split <;> try omega
  have vn:bg C (if a=s.lead.length then s.m else bK s.m s.lead.length a):=by
   split
   ·exact hR
   ·exact hR.swp _ _
  have hL1:(if a=s.lead.length then s.m else bK s.m s.lead.length a).length=s.m.length:=by
   split
   ·rfl
   ·exact iQ _ _ _
  generalize (if a=s.lead.length then s.m else bK s.m s.lead.length a)=m1 at *
  have ht:aV s.lead.length a s.lead.length=a:=by unfold aV;rw [if_pos rfl]
  have hf:aH m1 s.lead.length c=aH s.m a c:=by rw [hm1,ht]
  rw [hf];have hrl:=vn.get (iH (m:=m1) (i:=s.lead.length) (by omega));have hdl:(dV (cQ m1 s.lead.length) (aH s.m a c)).length=C:=by rw [W8_,hrl]
  have hR2:=vn.set s.lead.length hdl;refine ⟨by rw [kF,List.length_set,hL1],rfl,fun i j=>?_⟩;rw [s3_ hR2 hdl j _ (oJ _) i];have qP:∀ i j,aH (m1.set s.lead.length (dV (cQ m1 s.lead.length) (aH s.m a c))) i j=if i=s.lead.length then aH s.m a j / aH s.m a c else aH s.m (aV s.lead.length a i) j:=by
   intro i j;unfold aH at hm1 |-;rw [d6_ _ (by omega)];by_cases hi:i=s.lead.length
   ·rw [if_pos hi,if_pos hi,s0_,hm1,ht]
   ·rw [if_neg hi,if_neg hi,hm1]
  have EU:(dV (cQ m1 s.lead.length) (aH s.m a c)).getD j 0=aH s.m a j / aH s.m a c:=by
   rw [s0_];show aH m1 s.lead.length j / _=_;rw [hm1,ht]
  rw [EU,qP,qP,List.length_set,hL1];by_cases hi:i=s.lead.length
  ·rw [if_pos hi,if_neg (by rintro ⟨-,h⟩;exact h hi),if_pos hi]
  ·rw [if_neg hi,if_neg hi,if_neg hi];by_cases hil:i<s.m.length
   ·rw [if_pos ⟨hil,hi⟩]
   ·rw [if_neg (by rintro ⟨h,-⟩;exact hil h)];have:aV s.lead.length a i=i:=by unfold aV;rw [if_neg hi,if_neg (by omega)]
    rw [this,nG (by omega:s.m.length<=i),nG (by omega:s.m.length<=i)];grind
structure iF (R:Nat) (f:(Nat->Nat->Rat)->Rat):Prop where
 congr:∀ M N:Nat->Nat->Rat,(∀ a b,a<R->M a b=N a b)->f M=f N
 swap:∀ (M:Nat->Nat->Rat) i j,i<j->j<R->f (fun a b=>M (aV i j a) b)=- f M
 scale:∀ (M:Nat->Nat->Rat) r c,r<R->f (cN M r fun b=>c*M r b)=c*f M
 add:∀ (M:Nat->Nat->Rat) r s c,r<R->s<R->r≠s->f (cN M r fun b=>M r b+c*M s b)=f M
theorem iF.zero {R:Nat} {f:(Nat->Nat->Rat)->Rat} (h:iF R f) {M:Nat->Nat->Rat} {r:Nat} (hr:r<R) (h0:∀ b,M r b=0):f M=0:=by
 have h1:=h.scale M r 0 hr;have:cN M r (fun b=>0*M r b)=M:=by
  funext a b;unfold cN;split
  ·rename_i e;rw [e,h0 b];grind
  ·rfl
 rw [this] at h1;rw [h1];grind
theorem iF.elim {R:Nat} {f:(Nat->Nat->Rat)->Rat} (h:iF R f) (M:Nat->Nat->Rat) {r:Nat} (hr:r<R) (g:Nat->Rat) :
  ∀ t,t<=R->f (fun a b=>if a<t/\a≠r then M a b+g a*M r b else M a b)=f M
 | 0,_=>by
  congr 1
 | t+1,ht=>by
  by_cases e:t=r
  ·rw [<- iF.elim h M hr g t (by omega)];congr 1;funext a b;have:(a<t+1/\a≠r)=(a<t/\a≠r):=propext ⟨fun h=>⟨by omega,h.2⟩,fun h=>⟨by omega,h.2⟩⟩;simp only [this]
  ·rw [<- iF.elim h M hr g t (by omega)];rw [<- h.add (fun a b=>if a<t/\a≠r then M a b+g a*M r b else M a b) t r (g t) (by omega) hr e];congr 1;funext a b;by_cases ha:a=t
   ·subst ha;simp [cN,e]
   ·have:(a<t+1/\a≠r)=(a<t/\a≠r):=propext ⟨fun h=>⟨by omega,h.2⟩,fun h=>⟨by omega,h.2⟩⟩;simp only [cN,ha,if_false,this]
theorem iF.pivot {R:Nat} {f:(Nat->Nat->Rat)->Rat} (h:iF R f) {M N:Nat->Nat->Rat} {r a c:Nat} (hr:r<=a) (ha:a<R) (hne:M a c≠0)
  (hN:∀ i j,N i j=if i=r then M a j / M a c else M (aV r a i) j-M (aV r a i) c*(M a j / M a c)):f M=(if a=r then 1 else -1)*M a c*f N:=by
 obtain ⟨q,hq⟩:∃ q,q=M a c:=⟨_,rfl⟩;have ht:aV r a r=a:=by unfold aV;rw [if_pos rfl]
 obtain ⟨M1,tl⟩:∃ M1:Nat->Nat->Rat,M1=fun i j=>M (aV r a i) j:=⟨_,rfl⟩;obtain ⟨M2,rO⟩:∃ M2:Nat->Nat->Rat,M2=cN M1 r fun b=>q⁻¹*M1 r b:=⟨_,rfl⟩;have h1:f M=(if a=r then 1 else -1)*f M1:=by
  by_cases e:a=r
  ·subst e;rw [if_pos rfl,tl];have:(fun i j=>M (aV a a i) j)=M:=by funext i j;rw [lS]
   rw [this];grind
  ·rw [if_neg e,tl,h.swap M r a (by omega) ha];grind
 have h2:f M2=q⁻¹*f M1:=by rw [rO];exact h.scale _ _ _ (by omega)
 have h3:=h.elim M2 (r:=r) (by omega) (fun i=>- M2 i c) R (oJ _);have h4:f N=f M2:=by
  rw [<- h3];refine h.congr _ _ fun i j hi=>?_;have e2:∀ j,M2 r j=M a j / q:=fun j=>by rw [rO];unfold cN;rw [if_pos rfl,tl];show q⁻¹*M (aV r a r) j=_;rw [ht,Rat.div_def];grind
  rw [hN];by_cases e:i=r
  ·subst e;rw [if_pos rfl,if_neg (by rintro ⟨-,h⟩;exact h rfl),e2,hq]
  ·have e3:∀ j,M2 i j=M (aV r a i) j:=fun j=>by rw [rO];unfold cN;rw [if_neg e,tl]
   rw [if_neg e,if_pos ⟨hi,e⟩,e3,e3,e2,hq];grind
 rw [h4,h2,h1,<- hq];have:q*q⁻¹=1:=Rat.mul_inv_cancel q (by rw [hq];exact hne);grind
def a_ (l:List Nat) (j:Nat):Nat:=l.getD j 0
theorem e0_ {l:List Nat} {c j:Nat} (h:j<l.length):a_ (l++[c]) j=a_ l j:=by
 unfold a_;rw [oC,oM h,<- oC]
theorem f9_ (l:List Nat) (c:Nat):a_ (l++[c]) l.length=c:=by
 unfold a_;rw [oC];simp
structure gK (R:Nat) (A:Nat->Nat->Rat) (c:Nat) (s:fb) (ρ:Nat->Nat) (sg x:Rat):Prop where
 len:s.m.length=R
 rle:s.lead.length<=R
 rlc:s.lead.length<=c
 klt:∀ l,l<s.lead.length->a_ s.lead l<c
 full:s.lead.length=c->∀ l,l<c->a_ s.lead l=l
 unit:∀ i l,l<s.lead.length->aH s.m i (a_ s.lead l)=if i=l then 1 else 0
 zero:∀ i j,s.lead.length<=i->j<c->aH s.m i j=0
 rho:∀ i,i<R->ρ i<R
 sur:∀ i,i<R->∃ i',i'<R/\ρ i'=i
 span:∀ i j,i<R->A (ρ i) j=(if i<s.lead.length then 0 else aH s.m i j)+aQ s.lead.length fun l=>aH s.m l j*A (ρ i) (a_ s.lead l)
 dne:aU s.lead.length (fun a b=>A (ρ a) (a_ s.lead b))≠0
 form:∀ f,iF R f->f A=x*f (aH s.m)
 det:s.det=if s.lead.length=c then x else 0
 sgn:sg=1\/sg=-1
 sgf:∀ f,iF R f->f (fun a b=>A (ρ a) b)=sg*f A
 xD:x=sg*aU s.lead.length fun a b=>A (ρ a) (a_ s.lead b)
theorem gK.big {R:Nat} {A:Nat->Nat->Rat} {c:Nat} {s:fb} {ρ:Nat->Nat} {sg x:Rat} (h:gK R A c s ρ sg x) {i j:Nat} (hi:s.lead.length<=i) (Lg:i<R) :
  aU (s.lead.length+1) (fun a b=>A (if a<s.lead.length then ρ a else ρ i) (if b<s.lead.length then a_ s.lead b else j))=aH s.m i j*aU s.lead.length fun a b=>A (ρ a) (a_ s.lead b):=by
 generalize hr:s.lead.length=r at *
 have e:aU (r+1) (fun a b=>A (if a<r then ρ a else ρ i) (if b<r then a_ s.lead b else j))=aU (r+1) (fun a b=>if b=r then (if a<r then 0 else aH s.m i j)+aQ r (fun l=>aH s.m l j*A (if a<r then ρ a else ρ i) (a_ s.lead l)) else A (if a<r then ρ a else ρ i) (a_ s.lead b)):=by
  refine dP fun a b ha hb=>?_;by_cases e:b=r
  ·subst e;rw [if_neg (Nat.lt_irrefl b),if_pos rfl];by_cases e2:a<b
   ·rw [if_pos e2,if_pos e2];have:=h.span a j (by have:=h.rle;omega);rw [hr,if_pos e2] at this;exact this
   ·rw [if_neg e2,if_neg e2];have:=h.span i j Lg;rw [hr,if_neg (by omega)] at this;exact this
  ·rw [if_pos (show b<r by omega),if_neg e]
 rw [e,Z8_ _ (by omega)];have h0:aQ r (fun l=>aH s.m l j*aU (r+1) (fun a b=>if b=r then A (if a<r then ρ a else ρ i) (a_ s.lead l) else A (if a<r then ρ a else ρ i) (a_ s.lead b)))=0:=by
  rw [<- R4_ r];refine di fun l hl=>?_;rw [X0_ (i:=l) (j:=r) (by omega) (by omega) (by omega) (fun b hb=>by rw [if_neg (by omega),if_pos rfl])];grind
 rw [h0,T5_ (fun a ha=>by rw [if_pos rfl,if_pos ha])];rw [if_pos rfl,if_neg (by omega)];have:aU r (fun a b=>if b=r then (if a<r then 0 else aH s.m i j) else A (if a<r then ρ a else ρ i) (a_ s.lead b))=aU r fun a b=>A (ρ a) (a_ s.lead b):=dP fun a b ha hb=>by rw [if_neg (by omega),if_pos ha]
 rw [this];grind
theorem gK.small {R:Nat} {A:Nat->Nat->Rat} {c:Nat} {s:fb} {ρ:Nat->Nat} {sg x:Rat} (h:gK R A c s ρ sg x) {i j:Nat} (hi:i<s.lead.length) :
  aU s.lead.length (fun a b=>A (ρ a) (if b=i then j else a_ s.lead b))=aH s.m i j*aU s.lead.length fun a b=>A (ρ a) (a_ s.lead b):=by
 generalize hr:s.lead.length=r at *
 have e:aU r (fun a b=>A (ρ a) (if b=i then j else a_ s.lead b))=aU r (fun a b=>if b=i then (0:Rat)+aQ r (fun l=>aH s.m l j*A (ρ a) (a_ s.lead l)) else A (ρ a) (a_ s.lead b)):=by
  refine dP fun a b ha hb=>?_;by_cases e:b=i
  ·rw [if_pos e,if_pos e];have:=h.span a j (by have:=h.rle;omega);rw [hr,if_pos ha] at this;exact this
  ·rw [if_neg e,if_neg e]
 rw [e,Z8_ _ hi (fun _=>0)];have h0:aU r (fun a b=>if b=i then (0:Rat) else A (ρ a) (a_ s.lead b))=0:=by
  rw [<- eW];exact jl hi (fun b hb=>by rw [if_pos rfl])
 rw [h0,w8_ hi (fun l hl hne=>by
  rw [X0_ (i:=l) (j:=i) hl hi hne (fun b hb=>by rw [if_neg hne,if_pos rfl])];grind)]
 have:aU r (fun a b=>if b=i then A (ρ a) (a_ s.lead i) else A (ρ a) (a_ s.lead b))=aU r fun a b=>A (ρ a) (a_ s.lead b):=dP fun a b ha hb=>by
  split
  ·rename_i e;rw [e]
  ·rfl
 rw [this];grind
theorem p6_ {C:Nat} (m:List (List Rat)) (hR:bg C m):gK m.length (aH m) 0 (aj m 0) (fun i=>i) 1 1 where
 len:=rfl
 rle:=Nat.zero_le _
 rlc:=oJ _
 klt:=fun l hl=>by exact absurd hl (by show ¬ l<0;omega)
 full:=fun _ l hl=>by omega
 unit:=fun i l hl=>by exact absurd hl (by show ¬ l<0;omega)
 zero:=fun i j _ hj=>by omega
 rho:=fun i hi=>hi
 sur:=fun i hi=>⟨i,hi,rfl⟩
 span:=fun i j hi=>by
  show aH m i j=(if i<0 then 0 else aH m i j)+(0:Rat);rw [if_neg (by omega)];grind
 dne:=by show (1:Rat)≠0;decide
 form:=fun f hf=>by show f (aH m)=1*f (aH m);grind
 det:=rfl
 sgn:=.inl rfl
 sgf:=fun f hf=>by grind
 xD:=by show (1:Rat)=1*1;grind
theorem Z2A {C c:Nat} {R:Nat} {A:Nat->Nat->Rat} {s:fb} {ρ:Nat->Nat} {sg x:Rat} (h:gK R A c s ρ sg x) (hR:bg C s.m) :
  ∃ ρ' sg' x',gK R A (c+1) (bI c s) ρ' sg' x':=by
 rcases w7_ (c:=c) hR (by rw [h.len];exact h.rle) with ⟨e,hz⟩ | ⟨a,sL,ha2,hne,rJ,pQ,hlen,sq,qP⟩
 ·rw [e];refine ⟨ρ,sg,x,h.len,h.rle,Nat.le_succ_of_le h.rlc,fun l hl=>Nat.lt_succ_of_lt (h.klt l hl),fun hc=>?_,h.unit,fun i j hi hj=>?_,h.rho,h.sur,h.span,h.dne,h.form,?_,h.sgn,h.sgf,h.xD⟩
  ·have:=h.rlc;have qj:s.lead.length=c+1:=hc;omega
  ·by_cases e:j=c
   ·rw [e];exact hz i hi
   ·exact h.zero i j hi (by omega)
  ·show (0:Rat)=if s.lead.length=c+1 then x else 0
   rw [if_neg (by have:=h.rlc;omega)]
 ·rw [h.len] at ha2;have hL:(bI c s).lead.length=s.lead.length+1:=by rw [pQ];simp
  have py:∀ l,l<s.lead.length->a_ (bI c s).lead l=a_ s.lead l:=fun l hl=>by rw [pQ];exact e0_ hl
  have pW:a_ (bI c s).lead s.lead.length=c:=by rw [pQ];exact f9_ _ _
  have hbig:=h.big (i:=a) (j:=c) sL ha2;generalize hr:s.lead.length=r at *
  have x3:aV r a r=a:=by unfold aV;rw [if_pos rfl]
  have htl:∀ i,i<r->aV r a i=i:=fun i hi=>by unfold aV;rw [if_neg (by omega),if_neg (by omega)]
  have CW:∀ i,r<=i->r<=aV r a i:=fun i hi=>by unfold aV;repeat' split <;> try omega
  have yT:∀ i,i<R->aV r a i<R:=fun i hi=>by unfold aV;repeat' split <;> try omega
  have xz:∀ i,aV r a (aV r a i)=i:=fun i=>by unfold aV;repeat' split <;> try omega
  have hdiv:aH s.m a c / aH s.m a c=1:=by rw [Rat.div_def];exact Rat.mul_inv_cancel _ hne
  have qy:∀ l,l<r->aH s.m a (a_ s.lead l)=0:=fun l hl=>by rw [h.unit a l (by omega),if_neg (by omega)]
  have sY:∀ i l,l<r+1->aH (bI c s).m i (a_ (bI c s).lead l)=if i=l then 1 else 0:=by
   intro i l hl;by_cases e:l=r
   ·subst e;rw [pW,qP];by_cases e2:i=l
    ·rw [if_pos e2,if_pos e2,hdiv]
    ·rw [if_neg e2,if_neg e2,hdiv];grind
   ·rw [py l (by omega),qP,qy l (by omega)];by_cases e2:i=r
    ·rw [if_pos e2,if_neg (by omega),Rat.div_def,Rat.zero_mul]
    ·rw [if_neg e2,h.unit _ l (by omega),Rat.div_def,Rat.zero_mul];by_cases e3:i=l
     ·rw [if_pos e3,if_pos (by rw [e3];exact htl l (by omega))];grind
     ·rw [if_neg e3,if_neg (by intro e4;have h5:=xz i;rw [e4,htl l (by omega)] at h5;exact e3 h5.symm)];grind
  have hD:aU (r+1) (fun i b=>A (ρ (aV r a i)) (a_ (bI c s).lead b))=aH s.m a c*aU r fun a b=>A (ρ a) (a_ s.lead b):=by
   rw [<- hbig];refine dP fun i b hi hb=>?_;have e1:ρ (aV r a i)=if i<r then ρ i else ρ a:=by
    by_cases e:i<r
    ·rw [if_pos e,htl i e]
    ·rw [if_neg e,show i=r by omega,x3]
   have e2:a_ (bI c s).lead b=if b<r then a_ s.lead b else c:=by
    by_cases e:b<r
    ·rw [if_pos e,py b e]
    ·rw [if_neg e,show b=r by omega,pW]
   rw [e1,e2]
  refine ⟨fun i=>ρ (aV r a i),(if a=r then 1 else -1)*sg,x*((if a=r then 1 else -1)*aH s.m a c),by rw [hlen,h.len],by rw [hL];omega,by rw [hL];have:=h.rlc;omega,?_,?_,?_,?_,?_,?_,?_,?_,?_,?_,?_,?_,?_⟩
  ·intro l hl;rw [hL] at hl;by_cases e:l=r
   ·rw [e,pW];omega
   ·rw [py l (by omega)];have:=h.klt l (by omega);omega
  ·intro hc l hl;rw [hL] at hc;by_cases e:l=r
   ·rw [e,pW];omega
   ·rw [py l (by omega)];exact h.full (by omega) l (by omega)
  ·rw [hL];exact sY
  ·intro i j hi hj;rw [hL] at hi;by_cases e:j=c
   ·have:=sY i r (by omega);rw [pW,if_neg (by omega)] at this;rw [e];exact this
   ·rw [qP,if_neg (by omega),h.zero (aV r a i) j (by have:=CW i (by omega);omega) (by omega),h.zero a j (by omega) (by omega),Rat.div_def,Rat.zero_mul];grind
  ·intro i hi;exact h.rho _ (yT i hi)
  ·intro i hi;obtain ⟨i',h1,h2⟩:=h.sur i hi;exact ⟨aV r a i',yT i' h1,by rw [xz];exact h2⟩
  ·intro i j hi;have h1:=h.span (aV r a i) j (yT i hi);have h2:=h.span (aV r a i) c (yT i hi);rw [hL];show A (ρ (aV r a i)) j=_+(aQ r (fun l=>aH (bI c s).m l j*A (ρ (aV r a i)) (a_ (bI c s).lead l))+aH (bI c s).m r j*A (ρ (aV r a i)) (a_ (bI c s).lead r));rw [pW];rw [hr] at h1 h2;have e1:aQ r (fun l=>aH (bI c s).m l j*A (ρ (aV r a i)) (a_ (bI c s).lead l))=aQ r (fun l=>aH s.m l j*A (ρ (aV r a i)) (a_ s.lead l))+- (aH s.m a j / aH s.m a c)*aQ r (fun l=>aH s.m l c*A (ρ (aV r a i)) (a_ s.lead l)):=by
    rw [<- kZ,<- nu];refine di fun l hl=>?_;rw [py l hl,qP,if_neg (by omega),htl l hl];grind
   rw [e1,qP r j,if_pos rfl,qP i j];have hlt:(aV r a i<r)=(i<r):=by
    apply propext;constructor
    ·intro h;by_cases e:i<r
     ·exact e
     ·have:=CW i (by omega);omega
    ·intro h;rw [htl i h];exact h
   simp only [hlt] at h1 h2;by_cases e:i<r
   ·rw [if_pos e] at h1 h2;rw [if_pos (by omega),h1,h2];grind
   ·rw [if_neg e] at h1 h2;by_cases e2:i=r
    ·rw [e2,x3] at h1 h2;rw [if_pos (by omega),e2,x3,h1,h2];have:aH s.m a j / aH s.m a c*aH s.m a c=aH s.m a j:=by rw [Rat.div_def,Rat.mul_assoc,Rat.inv_mul_cancel _ hne,Rat.mul_one]
     grind
    ·rw [if_neg (by omega),if_neg e2,h1,h2];grind
  ·rw [hL,hD];intro h0;rcases Rat.mul_eq_zero.1 h0 with h0 | h0
   ·exact hne h0
   ·exact h.dne (by rw [hr];exact h0)
  ·intro f hf;rw [h.form f hf,hf.pivot sL ha2 hne qP];grind
  ·rw [sq,h.det,hL,hr];by_cases e:r=c
   ·rw [if_pos e,if_pos (show r+1=c+1 by omega)];split <;> grind
   ·rw [if_neg e,if_neg (show ¬ r+1=c+1 by omega)];split <;> grind
  ·rcases h.sgn with e | e <;> rw [e] <;> split <;> first | (left;grind) | (right;grind)
  ·intro f hf;by_cases e:a=r
   ·rw [if_pos e,e];have:(fun i b=>A (ρ (aV r r i)) b)=fun i b=>A (ρ i) b:=by funext i b;rw [lS]
    rw [this,h.sgf f hf];grind
   ·rw [if_neg e,hf.swap (fun i b=>A (ρ i) b) r a (by omega) ha2,h.sgf f hf];grind
  ·rw [hL,hD,h.xD,hr];grind
theorem nZ {C:Nat} (m:List (List Rat)) (hR:bg C m):∀ c,∃ ρ sg x,gK m.length (aH m) c (aj m c) ρ sg x
 | 0=>⟨_,_,_,p6_ m hR⟩
 | c+1=>by
  obtain ⟨ρ,sg,x,h⟩:=nZ m hR c;exact Z2A h (lP hR c).1
def bX (K:Nat) (x:Rat):Prop:=∃ z:Int,x=(z:Rat)/\z.natAbs<=K
theorem bX.mono {K L:Nat} {x:Rat} (h:bX K x) (hk:K<=L):bX L x:=by
 obtain ⟨z,h1,h2⟩:=h;exact ⟨z,h1,by omega⟩
theorem bX.zero (K:Nat):bX K 0:=⟨0,by simp,by simp⟩
theorem bX.add {K L:Nat} {x y:Rat} (h:bX K x) (k:bX L y):bX (K+L) (x+y):=by
 obtain ⟨z,rfl,h2⟩:=h;obtain ⟨z',rfl,k2⟩:=k;exact ⟨z+z',by rw [Rat.intCast_add],by omega⟩
theorem bX.mul {K L:Nat} {x y:Rat} (h:bX K x) (k:bX L y):bX (K*L) (x*y):=by
 obtain ⟨z,rfl,h2⟩:=h;obtain ⟨z',rfl,k2⟩:=k;exact ⟨z*z',by rw [Rat.intCast_mul],by rw [Int.natAbs_mul];exact Nat.mul_le_mul h2 k2⟩
theorem bX.sgn (i:Nat):bX 1 (de i):=by
 unfold de;split
 ·exact ⟨1,by simp,by simp⟩
 ·exact ⟨-1,by simp,by simp⟩
theorem bX.sum {K n:Nat} {f:Nat->Rat} (h:∀ i,i<n->bX K (f i)):bX (n*K) (aQ n f):=by
 induction n with
 | zero=>exact (bX.zero _)
 | succ n ih =>
  have:=(ih fun i hi=>h i (by omega)).add (h n (by omega));rw [Nat.succ_mul];exact this
def dw (K:Nat):Nat->Nat
 | 0=>1
 | n+1=>(n+1)*(K*dw K n)
theorem M6_ {K n:Nat} {M:Nat->Nat->Rat} (h:∀ a b,bX K (M a b)):bX (dw K n) (aU n M):=by
 induction n generalizing M with
 | zero=>exact ⟨1,by simp [aU],by simp [dw]⟩
 | succ n ih =>
  show bX ((n+1)*(K*dw K n)) (aQ (n+1) _);refine bX.sum fun i hi=>?_;have h1:=((bX.sgn i).mul (h i 0)).mul (ih (M:=fun a b=>M (sk i a) (b+1)) fun a b=>h _ _);rw [Nat.one_mul] at h1;exact h1
theorem nD {K : Nat} (hK : 1 <= K) {a b : Nat} (h : a <= b) : dw K a <= dw K b := by
  induction b with
  | zero => have : a = 0 := by omega
            subst this; exact oJ _
  | succ b ih =>
    by_cases e : a = b + 1
    · subst e; exact oJ _
    · have h1 := ih (by omega)
      show _ <= (b + 1) * (K * dw K b);have h2 : 1 * dw K b <= K * dw K b := Nat.mul_le_mul_right _ hK;have h3 : 1 * (K * dw K b) <= (b + 1) * (K * dw K b) := Nat.mul_le_mul_right _ (by omega);omega
theorem Z5b:dw 1000000000 13<10^130:=by decide +kernel
theorem bX.rs {x:Rat} (h:bX (dw 1000000000 13) x):RS 131 x:=by
 obtain ⟨z,rfl,h2⟩:=h;have h3:=Nat.lt_of_le_of_lt h2 Z5b;refine ⟨?_,?_⟩
 ·show (aD ((z:Rat)).num).size<=131;rw [show ((z:Rat)).num=z from rfl];have h4:=eK z;have h5:=ix z.natAbs 130 h3 (by omega);omega
 ·show (aE ((z:Rat)).den).size<=131;rw [show ((z:Rat)).den=1 from rfl,dz,Lib.nDigits_small (by omega)];omega
theorem Z2B {C:Nat} {m:List (List Rat)} (hR:bg C m) (hl:m.length<=12) (hm:∀ i j,bX 1000000000 (aH m i j)) (c:Nat):h_ 2500 (aj m c).m/\RS 9000 (aj m c).det:=by
 obtain ⟨ρ,sg,x,h⟩:=nZ m hR c;have LC:(aj m c).lead.length<=12:=by have:=h.rle;omega
 have hint:∀ (k:Nat) (f g:Nat->Nat),k<=13->bX (dw 1000000000 13) (aU k fun a b=>aH m (f a) (g b)):=fun k f g hk =>
  (M6_ (fun a b=>hm _ _)).mono (nD (by omega) hk)
 have hD:bX (dw 1000000000 13) (aU (aj m c).lead.length fun a b=>aH m (ρ a) (a_ (aj m c).lead b)):=hint _ _ _ (by omega);have hne:=h.dne;have qP:∀ i j,i<m.length->RS 300 (aH (aj m c).m i j):=by
  intro i j hi;have hN:bX (dw 1000000000 13) (aH (aj m c).m i j*aU (aj m c).lead.length fun a b=>aH m (ρ a) (a_ (aj m c).lead b)):=by
   by_cases e:i<(aj m c).lead.length
   ·rw [<- h.small e];exact hint _ ρ (fun b=>if b=i then j else a_ (aj m c).lead b) (by omega)
   ·rw [<- h.big (by omega) hi];exact hint _ (fun a=>if a<(aj m c).lead.length then ρ a else ρ i) (fun b=>if b<(aj m c).lead.length then a_ (aj m c).lead b else j) (by omega)
  generalize (aU (aj m c).lead.length fun a b=>aH m (ρ a) (a_ (aj m c).lead b))=D at *
  generalize aH (aj m c).m i j=g at *
  have e:g=(g*D) / D:=by rw [Rat.div_def,Rat.mul_assoc,Rat.mul_inv_cancel _ hne,Rat.mul_one]
  rw [e];exact (Z4Q hN.rs hD.rs hne).mono (by omega)
 have hsh:=lP hR c;refine ⟨fun r hr q hq=>?_,?_⟩
 ·obtain ⟨i,hi⟩:=List.getElem?_of_mem hr;obtain ⟨j,hj⟩:=List.getElem?_of_mem hq;have hil:=(n_.1 hi).1;have:=qP i j (by omega);unfold aH at this;rw [ng hi,oC,hj] at this;exact RS.mono this (by omega)
 ·rw [h.det]
  split
  ·rw [h.xD];rcases h.sgn with e | e
   ·rw [e,Rat.one_mul];exact hD.rs.mono (by omega)
   ·rw [e];have:bX (1*dw 1000000000 13) ((-1:Rat)*aU (aj m c).lead.length fun a b=>aH m (ρ a) (a_ (aj m c).lead b)):=bX.mul ⟨-1,by simp,by simp⟩ hD;rw [Nat.one_mul] at this;exact this.rs.mono (by omega)
  ·exact (bX.zero _).rs.mono (by omega)
theorem y5_ {xss:List (List Int)} (h:∀ r∈xss,∀ a∈r,-1000000000<=a/\a<=1000000000) (i j:Nat):bX 1000000000 (aH (bJ xss) i j):=by
 unfold aH cQ bJ;rw [oC (l:=xss.map dN),oE];cases hi:xss[i]? with
 | none=>exact bX.zero _
 | some r =>
  show bX _ ((dN r).getD j 0);unfold dN;rw [oC,oE];cases hj:r[j]? with
  | none=>exact bX.zero _
  | some a =>
   have:=h r (oD hi) a (oD hj);exact ⟨a,rfl,by omega⟩
def aW (xss:List (List Int)) (i j:Nat):Int:=(xss.getD i []).getD j 0
theorem nO (xss:List (List Int)) (i j:Nat):aH (bJ xss) i j=(aW xss i j:Rat):=by
 unfold aH cQ bJ aW;rw [oC (l:=xss.map dN),oE,oC (l:=xss)];cases hi:xss[i]? with
 | none=>simp
 | some r =>
  show (dN r).getD j 0=((r.getD j 0:Int):Rat);unfold dN;rw [oC,oE,oC];cases hj:r[j]? with
  | none=>simp
  | some a=>rfl
theorem C7_ {C c:Nat} {R:Nat} {A:Nat->Nat->Rat} {s:fb} {ρ:Nat->Nat} {sg x:Rat} (h:gK R A c s ρ sg x) (hR:bg C s.m) :
  (bI c s=⟨s.m,s.lead,0⟩/\(∀ i,s.lead.length<=i->aH s.m i c=0)/\gK R A (c+1) (bI c s) ρ sg x) \/
  ∃ a,s.lead.length<=a/\a<R/\aH s.m a c≠0/\(∀ j,s.lead.length<=j->j<a->aH s.m j c=0) /\
   (bI c s).lead=s.lead++[c]/\(bI c s).det=(if a=s.lead.length then s.det else -s.det)*aH s.m a c /\
   (∀ i j,aH (bI c s).m i j=if i=s.lead.length then aH s.m a j / aH s.m a c else aH s.m (aV s.lead.length a i) j-aH s.m (aV s.lead.length a i) c*(aH s.m a j / aH s.m a c)) /\
   ∃ ρ' sg' x',gK R A (c+1) (bI c s) ρ' sg' x'/\aU (s.lead.length+1) (fun i b=>A (ρ' i) (a_ (bI c s).lead b))=aH s.m a c*aU s.lead.length fun a b=>A (ρ a) (a_ s.lead b):=by
 rcases w7_ (c:=c) hR (by rw [h.len];exact h.rle) with ⟨e,hz⟩ | ⟨a,sL,ha2,hne,rJ,pQ,hlen,sq,qP⟩
 ·refine .inl ⟨e,hz,?_⟩;rw [e];refine ⟨h.len,h.rle,Nat.le_succ_of_le h.rlc,fun l hl=>Nat.lt_succ_of_lt (h.klt l hl),fun hc=>?_,h.unit,fun i j hi hj=>?_,h.rho,h.sur,h.span,h.dne,h.form,?_,h.sgn,h.sgf,h.xD⟩
  ·have:=h.rlc;have qj:s.lead.length=c+1:=hc;omega
  ·by_cases e:j=c
   ·rw [e];exact hz i hi
   ·exact h.zero i j hi (by omega)
  ·show (0:Rat)=if s.lead.length=c+1 then x else 0
   rw [if_neg (by have:=h.rlc;omega)]
 ·rw [h.len] at ha2;refine .inr ⟨a,sL,ha2,hne,rJ,pQ,sq,qP,?_⟩;have hL:(bI c s).lead.length=s.lead.length+1:=by rw [pQ];simp
  have py:∀ l,l<s.lead.length->a_ (bI c s).lead l=a_ s.lead l:=fun l hl=>by rw [pQ];exact e0_ hl
  have pW:a_ (bI c s).lead s.lead.length=c:=by rw [pQ];exact f9_ _ _
  have hbig:=h.big (i:=a) (j:=c) sL ha2;generalize hr:s.lead.length=r at *
  have x3:aV r a r=a:=by unfold aV;rw [if_pos rfl]
  have htl:∀ i,i<r->aV r a i=i:=fun i hi=>by unfold aV;rw [if_neg (by omega),if_neg (by omega)]
  have CW:∀ i,r<=i->r<=aV r a i:=fun i hi=>by unfold aV;repeat' split <;> try omega
  have yT:∀ i,i<R->aV r a i<R:=fun i hi=>by unfold aV;repeat' split <;> try omega
  have xz:∀ i,aV r a (aV r a i)=i:=fun i=>by unfold aV;repeat' split <;> try omega
  have hdiv:aH s.m a c / aH s.m a c=1:=by rw [Rat.div_def];exact Rat.mul_inv_cancel _ hne
  have qy:∀ l,l<r->aH s.m a (a_ s.lead l)=0:=fun l hl=>by rw [h.unit a l (by omega),if_neg (by omega)]
  have sY:∀ i l,l<r+1->aH (bI c s).m i (a_ (bI c s).lead l)=if i=l then 1 else 0:=by
   intro i l hl;by_cases e:l=r
   ·subst e;rw [pW,qP];by_cases e2:i=l
    ·rw [if_pos e2,if_pos e2,hdiv]
    ·rw [if_neg e2,if_neg e2,hdiv];grind
   ·rw [py l (by omega),qP,qy l (by omega)];by_cases e2:i=r
    ·rw [if_pos e2,if_neg (by omega),Rat.div_def,Rat.zero_mul]
    ·rw [if_neg e2,h.unit _ l (by omega),Rat.div_def,Rat.zero_mul];by_cases e3:i=l
     ·rw [if_pos e3,if_pos (by rw [e3];exact htl l (by omega))];grind
     ·rw [if_neg e3,if_neg (by intro e4;have h5:=xz i;rw [e4,htl l (by omega)] at h5;exact e3 h5.symm)];grind
  have hD:aU (r+1) (fun i b=>A (ρ (aV r a i)) (a_ (bI c s).lead b))=aH s.m a c*aU r fun a b=>A (ρ a) (a_ s.lead b):=by
   rw [<- hbig];refine dP fun i b hi hb=>?_;have e1:ρ (aV r a i)=if i<r then ρ i else ρ a:=by
    by_cases e:i<r
    ·rw [if_pos e,htl i e]
    ·rw [if_neg e,show i=r by omega,x3]
   have e2:a_ (bI c s).lead b=if b<r then a_ s.lead b else c:=by
    by_cases e:b<r
    ·rw [if_pos e,py b e]
    ·rw [if_neg e,show b=r by omega,pW]
   rw [e1,e2]
  refine ⟨fun i=>ρ (aV r a i),(if a=r then 1 else -1)*sg,x*((if a=r then 1 else -1)*aH s.m a c),⟨by rw [hlen,h.len],by rw [hL];omega,by rw [hL];have:=h.rlc;omega,?_,?_,?_,?_,?_,?_,?_,?_,?_,?_,?_,?_,?_⟩,hD⟩
  ·intro l hl;rw [hL] at hl;by_cases e:l=r
   ·rw [e,pW];omega
   ·rw [py l (by omega)];have:=h.klt l (by omega);omega
  ·intro hc l hl;rw [hL] at hc;by_cases e:l=r
   ·rw [e,pW];omega
   ·rw [py l (by omega)];exact h.full (by omega) l (by omega)
  ·rw [hL];exact sY
  ·intro i j hi hj;rw [hL] at hi;by_cases e:j=c
   ·have:=sY i r (by omega);rw [pW,if_neg (by omega)] at this;rw [e];exact this
   ·rw [qP,if_neg (by omega),h.zero (aV r a i) j (by have:=CW i (by omega);omega) (by omega),h.zero a j (by omega) (by omega),Rat.div_def,Rat.zero_mul];grind
  ·intro i hi;exact h.rho _ (yT i hi)
  ·intro i hi;obtain ⟨i',h1,h2⟩:=h.sur i hi;exact ⟨aV r a i',yT i' h1,by rw [xz];exact h2⟩
  ·intro i j hi;have h1:=h.span (aV r a i) j (yT i hi);have h2:=h.span (aV r a i) c (yT i hi);rw [hL];show A (ρ (aV r a i)) j=_+(aQ r (fun l=>aH (bI c s).m l j*A (ρ (aV r a i)) (a_ (bI c s).lead l))+aH (bI c s).m r j*A (ρ (aV r a i)) (a_ (bI c s).lead r));rw [pW];rw [hr] at h1 h2;have e1:aQ r (fun l=>aH (bI c s).m l j*A (ρ (aV r a i)) (a_ (bI c s).lead l))=aQ r (fun l=>aH s.m l j*A (ρ (aV r a i)) (a_ s.lead l))+- (aH s.m a j / aH s.m a c)*aQ r (fun l=>aH s.m l c*A (ρ (aV r a i)) (a_ s.lead l)):=by
    rw [<- kZ,<- nu];refine di fun l hl=>?_;rw [py l hl,qP,if_neg (by omega),htl l hl];grind
   rw [e1,qP r j,if_pos rfl,qP i j];have hlt:(aV r a i<r)=(i<r):=by
    apply propext;constructor
    ·intro h;by_cases e:i<r
     ·exact e
     ·have:=CW i (by omega);omega
    ·intro h;rw [htl i h];exact h
   simp only [hlt] at h1 h2;by_cases e:i<r
   ·rw [if_pos e] at h1 h2;rw [if_pos (by omega),h1,h2];grind
   ·rw [if_neg e] at h1 h2;by_cases e2:i=r
    ·rw [e2,x3] at h1 h2;rw [if_pos (by omega),e2,x3,h1,h2];have:aH s.m a j / aH s.m a c*aH s.m a c=aH s.m a j:=by rw [Rat.div_def,Rat.mul_assoc,Rat.inv_mul_cancel _ hne,Rat.mul_one]
     grind
    ·rw [if_neg (by omega),if_neg e2,h1,h2];grind
  ·rw [hL,hD];intro h0;rcases Rat.mul_eq_zero.1 h0 with h0 | h0
   ·exact hne h0
   ·exact h.dne (by rw [hr];exact h0)
  ·intro f hf;rw [h.form f hf,hf.pivot sL ha2 hne qP];grind
  ·rw [sq,h.det,hL,hr];by_cases e:r=c
   ·rw [if_pos e,if_pos (show r+1=c+1 by omega)];split <;> grind
   ·rw [if_neg e,if_neg (show ¬ r+1=c+1 by omega)];split <;> grind
  ·rcases h.sgn with e | e <;> rw [e] <;> split <;> first | (left;grind) | (right;grind)
  ·intro f hf;by_cases e:a=r
   ·rw [if_pos e,e];have:(fun i b=>A (ρ (aV r r i)) b)=fun i b=>A (ρ i) b:=by funext i b;rw [lS]
    rw [this,h.sgf f hf];grind
   ·rw [if_neg e,hf.swap (fun i b=>A (ρ i) b) r a (by omega) ha2,h.sgf f hf];grind
  ·rw [hL,hD,h.xD,hr];grind
def kX (m:List (List Int)) (i:Nat):List Int:=m.getD i []
def fc (p f d:Int) (r pr:List Int):List Int:=List.zipWith (fun x y=>(p*x-f*y) / d) r pr
def dx (m:List (List Int)) (c k:Nat) (p d:Int):Nat->List (List Int)
 | 0=>m
 | j+1=>if j=k then dx m c k p d j else (dx m c k p d j).set j (fc p (aW m j c) d (kX m j) (kX m k))
def fy (m:List (List Int)) (c:Nat):Nat->Nat->Nat
 | 0,a=>a
 | f+1,a=>if aW m a c=0 then fy m c f (a+1) else a
structure je where
 m:List (List Int)
 lead:List Nat
 last:Int
 odd:Bool
def ed (c:Nat) (s:je):je :=
 let k:=s.lead.length
 let a:=fy s.m c (s.m.length-k) k
 if a=s.m.length then s
 else
  let m1:=if a=k then s.m else bK s.m k a
  ⟨dx m1 c k (aW m1 k c) s.last m1.length,s.lead++[c],aW m1 k c,if a=k then s.odd else !s.odd⟩
def aw (m:List (List Int)):Nat->je
 | 0=>⟨m,[],1,false⟩
 | c+1=>ed c (aw m c)
def cT (C:Nat) (m:List (List Int)):Prop:=∀ r∈m,r.length=C
theorem cT.row {C:Nat} {m:List (List Int)} (h:cT C m) {i:Nat} (hi:i<m.length):(kX m i).length=C:=by
 unfold kX;rw [oC,n9 hi];exact h _ (List.getElem_mem hi)
theorem cT.set {C:Nat} {m:List (List Int)} (h:cT C m) (i:Nat) {r:List Int} (hr:r.length=C):cT C (m.set i r):=fun q hq=>by
 rcases List.mem_or_eq_of_mem_set hq with hq | rfl
 ·exact h q hq
 ·exact hr
theorem cT.swp {C:Nat} {m:List (List Int)} (h:cT C m) (i j:Nat):cT C (bK m i j):=by
 unfold Proofs.YtjlkkofmojgipaaGreatDoor.bK
 split
 ·rename_i a b ha hb;exact (h.set i (h _ (oD hb))).set j (h _ (oD ha))
 ·exact h
theorem u8_ {p f d:Int} {r pr:List Int} (h:pr.length=r.length):(fc p f d r pr).length=r.length:=by
 unfold fc;rw [List.length_zipWith,h,Nat.min_self]
theorem Z3k {p f d:Int} {r pr:List Int} (h:pr.length=r.length) (x:Nat):(fc p f d r pr).getD x 0=(p*r.getD x 0-f*pr.getD x 0) / d:=by
 unfold fc;rw [oC,oC,oC,List.getElem?_zipWith];by_cases hx:x<r.length
 ·rw [n9 hx,n9 (by omega:x<pr.length)];rfl
 ·rw [oK (by omega:r.length<=x),oK (by omega:pr.length<=x)];show (0:Int)=(p*0-f*0) / d;simp
theorem Z5e {m:List (List Int)} {k:Nat} (r:List Int) (hk:k<m.length) (i x:Nat):aW (m.set k r) i x=if i=k then r.getD x 0 else aW m i x:=by
 unfold aW;rw [oC (l:=m.set k r),oV];by_cases h:i=k
 ·subst h;rw [if_pos rfl,if_pos rfl,if_pos hk];rfl
 ·rw [if_neg (by omega),if_neg h,oC (l:=m)]
theorem z1_ {m:List (List Int)} {i x:Nat} (h:m.length<=i):aW m i x=0:=by
 unfold aW;rw [oC (l:=m),oK h];simp
theorem nF (m:List (List Int)) (c k:Nat) (p d:Int):∀ j,(dx m c k p d j).length=m.length
 | 0=>rfl
 | j+1=>by
  unfold dx;split
  ·exact nF m c k p d j
  ·rw [List.length_set];exact nF m c k p d j
theorem T8_ (m:List (List Int)) (c k:Nat) (p d:Int):∀ (j i:Nat),j<=i\/i=k->(dx m c k p d j)[i]?=m[i]?
 | 0,i,_=>rfl
 | j+1,i,h=>by
  unfold dx;by_cases e:j=k
  ·rw [if_pos e];exact T8_ m c k p d j i (by omega)
  ·rw [if_neg e,oV,if_neg (by omega)];exact T8_ m c k p d j i (by omega)
theorem cT.el {C:Nat} {m:List (List Int)} (h:cT C m) (c k:Nat) (p d:Int) (hk:k<m.length):∀ j,j<=m.length->cT C (dx m c k p d j)
 | 0,_=>h
 | j+1,hj=>by
  unfold dx
  split
  ·exact cT.el h c k p d hk j (by omega)
  ·exact (cT.el h c k p d hk j (by omega)).set j (by rw [u8_ (by rw [h.row hk,h.row (show j<m.length by omega)]),h.row (by omega)])
theorem z0_ {C:Nat} {m:List (List Int)} (h:cT C m) (c k:Nat) (p d:Int) (hk:k<m.length) (x:Nat) :
  ∀ j,j<=m.length->∀ i,aW (dx m c k p d j) i x=if i<j/\i≠k then (p*aW m i x-aW m i c*aW m k x) / d else aW m i x
 | 0,_,i=>by rw [if_neg (by omega)];rfl
 | j+1,hj,i=>by
  have ih:=z0_ h c k p d hk x j (by omega) i;unfold dx;by_cases e:j=k
  ·rw [if_pos e,ih];by_cases h1:i<j/\i≠k
   ·rw [if_pos h1,if_pos ⟨by omega,h1.2⟩]
   ·rw [if_neg h1,if_neg (by rintro ⟨h2,h3⟩;exact h1 ⟨by omega,h3⟩)]
  ·rw [if_neg e,Z5e _ (by rw [nF];omega),ih];by_cases e2:i=j
   ·subst e2;rw [if_pos rfl,if_pos ⟨by omega,e⟩,Z3k (by rw [h.row hk,h.row (by omega)])];rfl
   ·rw [if_neg e2];by_cases h1:i<j/\i≠k
    ·rw [if_pos h1,if_pos ⟨by omega,h1.2⟩]
    ·rw [if_neg h1,if_neg (by rintro ⟨h2,h3⟩;exact h1 ⟨by omega,h3⟩)]
theorem V1_ (m:List (List Int)) (c:Nat):∀ (f a:Nat),a<=fy m c f a/\fy m c f a<=a+f/\(∀ j,a<=j->j<fy m c f a->aW m j c=0)/\(fy m c f a<a+f->aW m (fy m c f a) c≠0)
 | 0,a=>⟨oJ _,oJ _,fun j h1 h2=>by have:j<a:=h2;omega,fun h=>by have:a<a+0:=h;omega⟩
 | f+1,a=>by
  unfold fy;by_cases h:aW m a c=0
  ·rw [if_pos h];obtain ⟨h1,h2,h3,h4⟩:=V1_ m c f (a+1);refine ⟨by omega,by omega,fun j Ld xM=>?_,fun hl=>h4 (by omega)⟩;by_cases e:j=a
   ·rw [e];exact h
   ·exact h3 j (by omega) xM
  ·rw [if_neg h];exact ⟨oJ _,by omega,fun j h1 h2=>by omega,fun _=>h⟩
theorem K9_ {m:List (List Int)} {c k a:Nat} (h1:k<=a) (h2:a<m.length) (hne:aW m a c≠0) (h0:∀ j,k<=j->j<a->aW m j c=0):fy m c (m.length-k) k=a:=by
 obtain ⟨g1,g2,g3,g4⟩:=V1_ m c (m.length-k) k;generalize fy m c (m.length-k) k=b at *
 rcases Nat.lt_trichotomy b a with h | h | h
 ·exact absurd (h0 b g1 h) (g4 (by omega))
 ·exact h
 ·exact absurd (g3 a h1 h) hne
theorem E9_ {m:List (List Int)} {c k:Nat} (hk:k<=m.length) (h0:∀ j,k<=j->aW m j c=0):fy m c (m.length-k) k=m.length:=by
 obtain ⟨g1,g2,g3,g4⟩:=V1_ m c (m.length-k) k;generalize fy m c (m.length-k) k=b at *
 by_cases h:b<m.length
 ·exact absurd (h0 b g1) (g4 (by omega))
 ·omega
theorem m9_ {m:List (List Int)} {a b:Nat} (ha:a<m.length) (hb:b<m.length) (i j:Nat):aW (bK m a b) i j=aW m (aV a b i) j:=by
 unfold aW;rw [oC (l:=bK m a b),oC (l:=m),fJ (n9 ha) (n9 hb)];unfold aV;by_cases h1:i=a
 ·subst h1;by_cases h2:i=b
  ·subst h2;rw [if_pos rfl,if_pos rfl,n9 ha]
  ·rw [if_neg h2,if_pos rfl,if_pos rfl,n9 hb]
 ·by_cases h2:i=b
  ·subst h2;rw [if_pos rfl,if_neg h1,if_pos rfl,n9 ha]
  ·rw [if_neg h2,if_neg h1,if_neg h1,if_neg h2]
structure ki (C c:Nat) (m:List (List Int)) (E:je) (S:fb):Prop where
 lead:E.lead=S.lead
 len:E.m.length=m.length
 rect:cT C E.m
 el:∀ i j,((aW E.m i j:Int):Rat)=(E.last:Rat)*aH S.m i j
 ne:E.last≠0
 det:S.lead.length=c->S.det=(if E.odd then -1 else 1)*(E.last:Rat)
 inv:∃ ρ sg x,gK m.length (aH (bJ m)) c S ρ sg x/\(E.last:Rat)=aU S.lead.length fun a b=>aH (bJ m) (ρ a) (a_ S.lead b)
theorem j4_ {K R c:Nat} {A:Nat->Nat->Rat} {s:fb} {ρ:Nat->Nat} {sg x:Rat} (h:gK R A c s ρ sg x) (hA:∀ i j,bX K (A i j)) (hK:1<=K) (i j:Nat) :
  bX (dw K (R+1)) (aU s.lead.length (fun a b=>A (ρ a) (a_ s.lead b))*aH s.m i j):=by
 have hl:=h.rle;by_cases hi:i<s.lead.length
 ·rw [Rat.mul_comm,<- h.small hi];exact (M6_ fun a b=>hA _ _).mono (nD hK (by omega))
 ·by_cases hR:i<R
  ·rw [Rat.mul_comm,<- h.big (by omega) hR];exact (M6_ fun a b=>hA _ _).mono (nD hK (by omega))
  ·rw [nG (by rw [h.len];omega),Rat.mul_zero];exact bX.zero _
theorem Z13 {C:Nat} {m:List (List Int)} (hr:cT C m) (hR:bg C (bJ m)):ki C 0 m (aw m 0) (aj (bJ m) 0) where
 lead:=rfl
 len:=rfl
 rect:=hr
 el:=fun i j=>by
  show ((aW m i j:Int):Rat)=((1:Int):Rat)*aH (bJ m) i j;rw [nO];grind
 ne:=by show (1:Int)≠0;decide
 det:=fun _=>by show (1:Rat)=(if false=true then -1 else 1)*((1:Int):Rat);rw [if_neg (by decide)];grind
 inv:=⟨fun i=>i,1,1,by have:=p6_ (bJ m) hR;rw [show (bJ m).length=m.length by simp [bJ]] at this;exact this,by show ((1:Int):Rat)=1;grind⟩
theorem Z12 {C c K:Nat} {m:List (List Int)} {E:je} {S:fb} (hK:1<=K) (hm:∀ i j,bX K (aH (bJ m) i j)) (hRS:bg C S.m) (h:ki C c m E S) :
  ki C (c+1) m (ed c E) (bI c S):=by
 obtain ⟨ρ,sg,x,hI,hD⟩:=h.inv;have hlen:=h.len;have hrle:=hI.rle;rcases C7_ hI hRS with ⟨e,hz,za⟩ | ⟨a,sL,ha2,hne,rJ,pQ,sq,qP,ρ',sg',x',za,DW⟩
 ·have hst:ed c E=E:=by
   unfold ed;simp only
   rw [h.lead,E9_ (by omega) (fun j hj=>by
    have:=h.el j c;rw [hz j hj,Rat.mul_zero] at this
    exact_mod_cast this),if_pos rfl]
  rw [hst];rw [e] at za |-;exact ⟨h.lead,h.len,h.rect,h.el,h.ne,fun hc=>by have:=hI.rlc;have qj:S.lead.length=c+1:=hc;omega,ρ,sg,x,za,hD⟩
 ·obtain ⟨k,hk⟩:∃ k,k=S.lead.length:=⟨_,rfl⟩;rw [<- hk] at sL rJ sq qP DW hrle;have pN:a<E.m.length:=by omega
  have hkl:k<E.m.length:=by omega
  have vH:aW E.m a c≠0:=by
   intro h0;have:=h.el a c;rw [h0] at this;have h2:(E.last:Rat)≠0:=by exact_mod_cast h.ne
   rcases Rat.mul_eq_zero.1 (show (E.last:Rat)*aH S.m a c=0 by rw [<- this];rfl) with h3 | h3
   ·exact h2 h3
   ·exact hne h3
  have C6:fy E.m c (E.m.length-k) k=a:=K9_ sL pN vH fun j h1 h2=>by
   have:=h.el j c;rw [rJ j h1 h2,Rat.mul_zero] at this
   exact_mod_cast this
  obtain ⟨m1,hm1⟩:∃ m1,m1=if a=k then E.m else bK E.m k a:=⟨_,rfl⟩
  have hst:ed c E=⟨dx m1 c k (aW m1 k c) E.last m1.length,S.lead++[c],aW m1 k c,if a=k then E.odd else !E.odd⟩:=by
   unfold ed;simp only;rw [h.lead,<- hk,C6,if_neg (by omega),<- hm1]
  have e1:∀ i j,aW m1 i j=aW E.m (aV k a i) j:=fun i j=>by
   rw [hm1];by_cases e:a=k
   ·rw [if_pos e,e,lS]
   ·rw [if_neg e];exact m9_ hkl pN i j
  have l1:m1.length=E.m.length:=by
   rw [hm1];split
   ·rfl
   ·exact iQ _ _ _
  have r1:cT C m1:=by
   rw [hm1];split
   ·exact h.rect
   ·exact h.rect.swp _ _
  clear hm1;have tQ:aV k a k=a:=by unfold aV;rw [if_pos rfl]
  obtain ⟨p,hp⟩:∃ p,p=aW m1 k c:=⟨_,rfl⟩;have Iw:p=aW E.m a c:=by rw [hp,e1,tQ]
  have AE:(p:Rat)=(E.last:Rat)*aH S.m a c:=by rw [Iw];exact h.el a c
  have EV:(p:Rat)=aU (bI c S).lead.length fun i b=>aH (bJ m) (ρ' i) (a_ (bI c S).lead b):=by
   rw [show (bI c S).lead.length=k+1 by rw [pQ,oU,<- hk];rfl,DW,AE,hD,<- hk];grind
  rw [<- hp] at hst;rw [hst];refine ⟨pQ.symm,by show (dx m1 c k p E.last m1.length).length=_;rw [nF,l1];exact hlen,r1.el c k p E.last (by omega) _ (oJ _),fun i j=>?_,by show p≠0;rw [Iw];exact vH,fun hc=>?_,ρ',sg',x',za,EV⟩
  ·show ((aW (dx m1 c k p E.last m1.length) i j:Int):Rat)=(p:Rat)*aH (bI c S).m i j;rw [z0_ r1 c k p E.last (by omega) j _ (oJ _)];by_cases hik:i=k
   ·rw [if_neg (by rintro ⟨-,h⟩;exact h hik),qP,if_pos hik,hik,e1,tQ,h.el,AE];have:aH S.m a c*(aH S.m a j / aH S.m a c)=aH S.m a j:=by rw [Rat.div_def,Rat.mul_comm (aH S.m a j),<- Rat.mul_assoc,Rat.mul_inv_cancel _ hne,Rat.one_mul]
    rw [Rat.mul_assoc,this]
   ·by_cases hil:i<m1.length
    ·rw [if_pos ⟨hil,hik⟩];obtain ⟨z,hz,-⟩:=j4_ za hm hK i j;rw [<- EV] at hz;have hN:p*aW m1 i j-aW m1 i c*aW m1 k j=E.last*z:=by
      have hq:((p*aW m1 i j-aW m1 i c*aW m1 k j:Int):Rat)=((E.last*z:Int):Rat):=by
       rw [Rat.intCast_sub,Rat.intCast_mul,Rat.intCast_mul,Rat.intCast_mul,<- hz,e1,e1,e1,tQ,h.el,h.el,h.el,qP,if_neg hik,AE];have:aH S.m a c*(aH S.m a j / aH S.m a c)=aH S.m a j:=by rw [Rat.div_def,Rat.mul_comm (aH S.m a j),<- Rat.mul_assoc,Rat.mul_inv_cancel _ hne,Rat.one_mul]
       grind
      exact_mod_cast hq
     rw [hN,Int.mul_ediv_cancel_left z h.ne,hz]
    ·rw [if_neg (by rintro ⟨h,-⟩;exact hil h),z1_ (by omega),nG (by rw [za.len];omega)];show (0:Rat)=_;rw [Rat.mul_zero]
  ·have xL:S.lead.length=c:=by
    rw [pQ,oU] at hc;have:S.lead.length+1=c+1:=hc;omega
   have hd:=h.det xL;rw [sq];show _=(if (if a=k then E.odd else !E.odd)=true then (-1:Rat) else 1)*(p:Rat);rw [hd,AE];by_cases e:a=k
   ·rw [if_pos e,if_pos e];grind
   ·rw [if_neg e,if_neg e];cases E.odd <;> simp <;> grind
theorem P2_ {C:Nat} {m:List (List Int)} (hr:cT C m):bg C (bJ m):=by
 intro r yU;unfold bJ at yU;obtain ⟨q,hq,rfl⟩:=List.mem_map.1 yU;unfold dN;rw [List.length_map];exact hr q hq
theorem kr {C K:Nat} {m:List (List Int)} (hK:1<=K) (hm:∀ i j,bX K (aH (bJ m) i j)) (hr:cT C m):∀ c,ki C c m (aw m c) (aj (bJ m) c)
 | 0=>Z13 hr (P2_ hr)
 | c+1=>Z12 hK hm (lP (P2_ hr) c).1 (kr hK hm hr c)
theorem ki.small {C c K:Nat} {m:List (List Int)} {E:je} {S:fb} (h:ki C c m E S) (hK:1<=K) (hm:∀ i j,bX K (aH (bJ m) i j)) :
  (∀ i j,(aW E.m i j).natAbs<=dw K (m.length+1))/\E.last.natAbs<=dw K (m.length+1):=by
 obtain ⟨ρ,sg,x,hI,hD⟩:=h.inv;have key:∀ (z:Int) (q:Rat),bX (dw K (m.length+1)) q->(z:Rat)=q->z.natAbs<=dw K (m.length+1):=by
  rintro z q ⟨y,hy,hb⟩ hz;rw [hy] at hz;have:z=y:=by exact_mod_cast hz
  rw [this];exact hb
 refine ⟨fun i j=>key _ _ (j4_ hI hm hK i j) (by rw [h.el,hD]),key _ _ ((M6_ fun a b=>hm _ _).mono (nD hK (by have:=hI.rle;omega))) hD⟩
theorem i7_ {C c:Nat} {s:je} (h:cT C s.m) (hk:s.lead.length<=s.m.length):cT C (ed c s).m/\(ed c s).m.length=s.m.length/\(ed c s).lead.length<=s.m.length:=by
 unfold ed;simp only;obtain ⟨g1,g2,g3,g4⟩:=V1_ s.m c (s.m.length-s.lead.length) s.lead.length;generalize fy s.m c (s.m.length-s.lead.length) s.lead.length=a at *
 by_cases ha:a=s.m.length
 ·rw [if_pos ha];exact ⟨h,rfl,hk⟩
 ·rw [if_neg ha];have r1:cT C (if a=s.lead.length then s.m else bK s.m s.lead.length a)/\(if a=s.lead.length then s.m else bK s.m s.lead.length a).length=s.m.length:=by
   split
   ·exact ⟨h,rfl⟩
   ·exact ⟨h.swp _ _,iQ _ _ _⟩
  obtain ⟨r1,r2⟩:=r1;generalize (if a=s.lead.length then s.m else bK s.m s.lead.length a)=m1 at *
  exact ⟨r1.el _ _ _ _ (by omega) _ (oJ _),by rw [nF];exact r2,by rw [oU];simp;omega⟩
theorem Y8_ {C:Nat} {m:List (List Int)} (h:cT C m):∀ c,cT C (aw m c).m/\(aw m c).m.length=m.length/\(aw m c).lead.length<=m.length
 | 0=>⟨h,rfl,Nat.zero_le _⟩
 | c+1=>by
  obtain ⟨h1,h2,h3⟩:=Y8_ h c;obtain ⟨k1,k2,k3⟩:=i7_ (c:=c) h1 (by omega);exact ⟨k1,by show (ed c (aw m c)).m.length=_;omega,by show (ed c (aw m c)).lead.length<=_;omega⟩
theorem Z0J {c:Nat} {s:je} (h:s.lead.length=s.m.length):ed c s=s:=by
 unfold ed;simp only;rw [h,Nat.sub_self];exact if_pos rfl
theorem F8_ {C:Nat} {m:List (List Int)} (hr:cT C m) {c:Nat} (h:(aw m c).lead.length=m.length):∀ d,aw m (c+d)=aw m c
 | 0=>rfl
 | d+1=>by
  show ed (c+d) (aw m (c+d))=_;rw [F8_ hr h d];exact Z0J (by rw [h,(Y8_ hr c).2.1])
structure dZ (w0 wr:World) (g0 D:Nat) (oZ:List (Nat×Nat)) (m:List (List Int)) (v:Value) (ld:List Nat) (tags:List (Nat×Nat)):Prop where
 mat:dR wr g0 tags m
 lead:ck D wr v ld
 same:∀ b,bZ g0 tags b↔bZ g0 oZ b
 grown:aP (bZ g0 oZ) w0 wr
 size:D<=wr.heap.size
theorem dZ.ext {w0 wr w':World} {g0 D:Nat} {oZ:List (Nat×Nat)} {m:List (List Int)} {v:Value} {ld:List Nat} {tags:List (Nat×Nat)} (h:dZ w0 wr g0 D oZ m v ld tags) (he:aC wr w'):dZ w0 w' g0 D oZ m v ld tags :=
 ⟨h.mat.ext he,h.lead.ext he,h.same,h.grown.trans (he.grownS _),oI h.size he.size⟩
theorem dZ.setEl {w0 wr:World} {g0 D:Nat} {oZ:List (Nat×Nat)} {m:List (List Int)} {v:Value} {ld:List Nat} {tags:List (Nat×Nat)} (h:dZ w0 wr g0 D oZ m v ld tags) (hb:∀ b,bZ g0 tags b->b<D)
  {i j:Nat} {t:Nat×Nat} {r:List Int} (ht:tags[i]?=some t) (hr:m[i]?=some r) (hj:j<r.length) (q:Int) :
  dZ w0 (wr.setCell ⟨t.1,j,none⟩ (.string (aD q))) g0 D oZ (m.set i (r.set j q)) v ld tags:=by
 have hgr:aP (·=t.1) wr (wr.setCell ⟨t.1,j,none⟩ (.string (aD q))):=(aP.refl (·=t.1) wr).store (S:=(·=t.1)) rfl _ _;obtain ⟨t',qv,-,-,-,hR,hne,hbq⟩:=h.mat.get hr;obtain rfl:t'=t:=oL (qv.symm.trans ht);have hlt:=hb _ hbq;exact ⟨h.mat.setRow ht hr (by rw [List.length_set]) hgr (hR.set j hj q),h.lead.grown hgr (fun b e=>by omega),h.same,h.grown.trans (hgr.weak fun b _ e=>by rw [e];exact (h.same _).1 hbq),by rw [dX];exact h.size⟩
theorem dZ.push {w0 wr w':World} {g0 D:Nat} {oZ:List (Nat×Nat)} {m:List (List Int)} {v v':Value} {ld ld':List Nat} {tags:List (Nat×Nat)} (h:dZ w0 wr g0 D oZ m v ld tags) (hb:∀ b,bZ g0 tags b->b<D) (hD:w0.heap.size<=D)
  (hB:Below D wr w') (hv:ck D w' v' ld'):dZ w0 w' g0 D oZ m v' ld' tags:=by
 have hgr:aP (fun b=>D<=b) wr w':=⟨hB.os,hB.tape,hB.output,hB.size,fun k hk hn=>hB.block k (by omega)⟩;exact ⟨h.mat.grown hgr (fun b qx e=>by have:=hb b qx;omega),hv,h.same,S1_ h.grown hgr (fun b e=>.inl (by omega)),oI h.size hB.size⟩
theorem dZ.swap {w0 wr:World} {g0 D C:Nat} {oZ:List (Nat×Nat)} {m:List (List Int)} {v:Value} {ld:List Nat} {tags:List (Nat×Nat)} (h:dZ w0 wr g0 D oZ m v ld tags) (hb:∀ b,bZ g0 oZ b->b<D) (hr:cT C m) {k a:Nat} (hk:k<m.length) (ha:a<m.length) :
  ∃ s t,tags[k]?=some s/\tags[a]?=some t/\wr.cell? ⟨g0,k,none⟩=some (.slice (some ⟨s.1,0,none⟩) C s.2)/\wr.cell? ⟨g0,a,none⟩=some (.slice (some ⟨t.1,0,none⟩) C t.2)/\wr.frozen? ⟨g0,k,none⟩=false/\wr.frozen? ⟨g0,a,none⟩=false/\C<=s.2/\C<=t.2/\s.2<=9223372036854775807/\t.2<=9223372036854775807 /\
   dZ w0 ((wr.setCell ⟨g0,k,none⟩ (.slice (some ⟨t.1,0,none⟩) C t.2)).setCell ⟨g0,a,none⟩ (.slice (some ⟨s.1,0,none⟩) C s.2)) g0 D oZ (bK m k a) v ld (bK tags k a) /\
   dZ w0 ((wr.setCell ⟨g0,a,none⟩ (.slice (some ⟨s.1,0,none⟩) C s.2)).setCell ⟨g0,k,none⟩ (.slice (some ⟨t.1,0,none⟩) C t.2)) g0 D oZ (bK m a k) v ld (bK tags a k):=by
 have hk2:=n9 hk;have ha2:=n9 ha;obtain ⟨s,hs,c1,h1,h2,-⟩:=h.mat.get hk2;obtain ⟨t,ht,c3,h3,h4,-⟩:=h.mat.get ha2;have e1:=hr _ (oD hk2);have e2:=hr _ (oD ha2);have hsw:=h.mat.swap hs ht hk2 ha2;have hsw2:=h.mat.swap ht hs ha2 hk2;rw [e1] at c1 h1 hsw hsw2;rw [e2] at c3 h3 hsw hsw2;have hgr:∀ i j x y,aP (·=g0) wr ((wr.setCell ⟨g0,i,none⟩ x).setCell ⟨g0,j,none⟩ y):=fun i j x y=>((aP.refl (·=g0) wr).store (S:=(·=g0)) rfl _ _).store (S:=(·=g0)) rfl _ _;have yC:bZ g0 oZ g0:=List.mem_cons_self ..;have hgl:=hb g0 yC
 refine ⟨s,t,hs,ht,c1,c3,h.mat.free k,h.mat.free a,h1,h3,h2,h4,⟨hsw,h.lead.grown (hgr _ _ _ _) (fun b e=>by omega),fun b=>(V7_ hs ht).trans (h.same b),h.grown.trans ((hgr _ _ _ _).weak fun b _ e=>by rw [e];exact yC),by rw [dX,dX];exact h.size⟩,
  ⟨hsw2,h.lead.grown (hgr _ _ _ _) (fun b e=>by omega),fun b=>(V7_ ht hs).trans (h.same b),h.grown.trans ((hgr _ _ _ _).weak fun b _ e=>by rw [e];exact yC),by rw [dX,dX];exact h.size⟩⟩
theorem Z4D {α:Type} (l:List α) (i j:Nat):bK l i j=bK l j i:=by
 by_cases h:i<l.length/\j<l.length
 ·have hi:=n9 h.1;have hj:=n9 h.2;apply List.ext_getElem?;intro k;rw [fJ hi hj,fJ hj hi];by_cases e1:k=j
  ·by_cases e2:k=i
   ·rw [if_pos e1,if_pos e2];subst e1;subst e2;rfl
   ·rw [if_pos e1,if_neg e2,if_pos e1]
  ·rw [if_neg e1];by_cases e2:k=i
   ·rw [if_pos e2,if_pos e2]
   ·rw [if_neg e2,if_neg e2,if_neg e1]
 ·unfold bK;by_cases h1:i<l.length
  ·rw [n9 h1,oK (show l.length<=j by omega)]
  ·rw [oK (show l.length<=i by omega)];cases l[j]? <;> rfl
structure Z6H (m:List (List Int)) (n:Nat):Prop where
 sz:∀ c,c<=n->∀ i j,(aD (aW (aw m c).m i j)).size<=6000
 lsz:∀ c,c<=n->(aD (aw m c).last).size<=6000
 ne:∀ c,c<=n->(aw m c).last≠0
 dvd:∀ c a,c<n->(aw m c).lead.length<=a->a<m.length->aW (aw m c).m a c≠0->(∀ j,(aw m c).lead.length<=j->j<a->aW (aw m c).m j c=0)->∀ m1,m1=(if a=(aw m c).lead.length then (aw m c).m else bK (aw m c).m (aw m c).lead.length a) ->
  ∀ i j,aW m1 (aw m c).lead.length c*aW m1 i j-aW m1 i c*aW m1 (aw m c).lead.length j=(aw m c).last*((aW m1 (aw m c).lead.length c*aW m1 i j-aW m1 i c*aW m1 (aw m c).lead.length j) / (aw m c).last)
theorem Z3e {C c K:Nat} {m:List (List Int)} {E:je} {S:fb} (hK:1<=K) (hm:∀ i j,bX K (aH (bJ m) i j)) (hRS:bg C S.m) (h:ki C c m E S) {a:Nat} (sL:E.lead.length<=a) (pN:a<m.length) (vH:aW E.m a c≠0)
  (sU:∀ j,E.lead.length<=j->j<a->aW E.m j c=0) {m1:List (List Int)} (hm1:m1=if a=E.lead.length then E.m else bK E.m E.lead.length a) (i j:Nat) :
  E.last ∣ (aW m1 E.lead.length c*aW m1 i j-aW m1 i c*aW m1 E.lead.length j):=by
 obtain ⟨ρ,sg,x,hI,hD⟩:=h.inv;have hlen:=h.len;have h2:(E.last:Rat)≠0:=by
  intro h0;have:E.last=0:=by exact_mod_cast h0
  exact h.ne this
 have hzero:∀ i j,aW E.m i j=0↔aH S.m i j=0:=fun i j=>by
  have:=h.el i j;constructor
  ·intro h0;rw [h0] at this;rcases Rat.mul_eq_zero.1 (show (E.last:Rat)*aH S.m i j=0 by rw [<- this];rfl) with h3 | h3
   ·exact absurd h3 h2
   ·exact h3
  ·intro h0;rw [h0,Rat.mul_zero] at this
   exact_mod_cast this
 obtain ⟨k,hk⟩:∃ k,k=E.lead.length:=⟨_,rfl⟩;have Fv:k=S.lead.length:=by rw [hk,h.lead]
 rw [<- hk] at sL sU hm1 |-;rcases C7_ hI hRS with ⟨-,hz,-⟩ | ⟨b,hb1,hb2,DC,yh,pQ,sq,qP,ρ',sg',x',za,DW⟩
 ·exact absurd ((hzero a c).2 (hz a (by omega))) vH
 ·obtain rfl:b=a:=by
   rcases Nat.lt_trichotomy b a with h1 | h1 | h1
   ·exact absurd ((hzero b c).1 (sU b (by omega) h1)) DC
   ·exact h1
   ·exact absurd ((hzero a c).2 (yh a (by omega) h1)) vH
  rw [<- Fv] at qP DW;have hkl:k<E.m.length:=by omega
  have e1:∀ i j,aW m1 i j=aW E.m (aV k b i) j:=fun i j=>by
   rw [hm1];by_cases e:b=k
   ·rw [if_pos e,e,lS]
   ·rw [if_neg e];exact m9_ hkl (by omega) i j
  have tQ:aV k b k=b:=by unfold aV;rw [if_pos rfl]
  by_cases hik:i=k
  ·rw [hik,Int.sub_self];exact Int.dvd_zero _
  ·by_cases hil:i<m.length
   ·obtain ⟨p,hp⟩:∃ p,p=aW m1 k c:=⟨_,rfl⟩;have AE:(p:Rat)=(E.last:Rat)*aH S.m b c:=by rw [hp,e1,tQ];exact h.el b c
    have EV:(p:Rat)=aU (bI c S).lead.length fun i b=>aH (bJ m) (ρ' i) (a_ (bI c S).lead b):=by
     rw [show (bI c S).lead.length=k+1 by rw [pQ,oU,<- Fv];rfl,DW,AE,hD,<- Fv];grind
    obtain ⟨z,hz,-⟩:=j4_ za hm hK i j;rw [<- EV] at hz;refine ⟨z,?_⟩;rw [<- hp];have hq:((p*aW m1 i j-aW m1 i c*aW m1 k j:Int):Rat)=((E.last*z:Int):Rat):=by
     rw [Rat.intCast_sub,Rat.intCast_mul,Rat.intCast_mul,Rat.intCast_mul,<- hz,e1,e1,e1,tQ,h.el,h.el,h.el,qP,if_neg hik,AE];have:aH S.m b c*(aH S.m b j / aH S.m b c)=aH S.m b j:=by rw [Rat.div_def,Rat.mul_comm (aH S.m b j),<- Rat.mul_assoc,Rat.mul_inv_cancel _ DC,Rat.one_mul]
     grind
    exact_mod_cast hq
   ·have x9:m1.length=E.m.length:=by
     rw [hm1];split
     ·rfl
     ·exact iQ _ _ _
    rw [z1_ (m:=m1) (i:=i) (x:=j) (by omega),z1_ (m:=m1) (i:=i) (x:=c) (by omega),Int.mul_zero,Int.zero_mul,Int.sub_self];exact Int.dvd_zero _
theorem g9_ {z:Int} {k:Nat} (hk:k<=13) (h:z.natAbs<=dw 1000000000 k):(aD z).size<=131:=by
 have h1:bX (dw 1000000000 13) (z:Rat):=⟨z,rfl,oI h (nD (by omega) hk)⟩;have h2:=h1.rs.1;rw [show ((z:Rat)).num=z from rfl] at h2;exact h2
theorem Z1p {C:Nat} {m:List (List Int)} (hr:cT C m) (hl:m.length<=12) (hm:∀ i j,bX 1000000000 (aH (bJ m) i j)) (n:Nat):Z6H m n where
 sz:=fun c _ i j=>oI (g9_ (k:=m.length+1) (by omega) (((kr (by omega) hm hr c).small (by omega) hm).1 i j)) (by omega)
 lsz:=fun c _=>oI (g9_ (k:=m.length+1) (by omega) ((kr (by omega) hm hr c).small (by omega) hm).2) (by omega)
 ne:=fun c _=>(kr (by omega) hm hr c).ne
 dvd:=fun c a _ h1 h2 h3 h4 m1 hm1 i j=>by
  have hB:=kr (K:=1000000000) (by omega) hm hr c;exact (Int.mul_ediv_cancel' (Z3e (by omega) hm (lP (P2_ hr) c).1 hB h1 h2 h3 h4 hm1 i j)).symm
def jz (m:List (List Int)):Int:=if (aw m m.length).lead.length<m.length then 0 else if (aw m m.length).odd then-(aw m m.length).last else (aw m m.length).last
theorem Z2C {m:List (List Int)} (hr:cT m.length m) (hm:∀ i j,bX 1000000000 (aH (bJ m) i j)):((jz m:Int):Rat)=(aj (bJ m) m.length).det:=by
 have h:=kr (K:=1000000000) (by omega) hm hr m.length;obtain ⟨ρ,sg,x,hI,-⟩:=h.inv;unfold jz;by_cases h1:(aw m m.length).lead.length<m.length
 ·rw [if_pos h1,hI.det,if_neg (by rw [<- h.lead];omega)];rfl
 ·have h2:(aj (bJ m) m.length).lead.length=m.length:=by have:=hI.rle;rw [h.lead] at h1;omega
  rw [if_neg h1,h.det h2];cases (aw m m.length).odd
  ·rw [if_neg (by decide),if_neg (by decide)];grind
  ·rw [if_pos rfl,if_pos rfl,Rat.intCast_neg];grind
end Go.Proofs.YtjlkkofmojgipaaGreatDoor
