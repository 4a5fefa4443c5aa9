import Derived.Test.YtjlkkofmojgipaaGreatDoorXAA
import Derived.Laws.Bits64b
import Derived.Test.YtjlkkofmojgipaaGreatDoorXAD
import Derived.Test.YtjlkkofmojgipaaGreatDoorXAE
import Derived.Laws.Rows
import Derived.Deep.RegionHeld3
import Derived.Deep.DrawnRows
set_option linter.unusedVariables false
set_option linter.unusedSimpArgs false
set_option maxRecDepth 1000000
set_option maxHeartbeats 4000000
namespace Go.Proofs.YtjlkkofmojgipaaGreatDoor
open Go.RowKit Go.Proofs.Tryz
def fm (n:Nat):Nat->Nat->Nat->List Nat
 | 0,_,s=>[s]
 | k+1,f,s=>(List.range (n-k-f)).flatMap fun d=>fm n k (f+d+1) (s ||| (1 <<< (f+d)))
def aJ (n k:Nat):List Nat:=fm n k 0 0
def gI (n k f s d:Nat):List Nat:=(List.range d).flatMap fun d=>fm n k (f+d+1) (s ||| (1 <<< (f+d)))
theorem N7_ (n k f s d:Nat):gI n k f s (d+1)=gI n k f s d++fm n k (f+d+1) (s ||| (1 <<< (f+d))):=by
 unfold gI;rw [List.range_succ,List.flatMap_append];simp
theorem h4_ (n k f s:Nat):fm n (k+1) f s=gI n k f s (n-k-f):=rfl
theorem Z61 {s i m:Nat} (hs:s<2^m) (hi:i<m):s ||| (1 <<< i)<2^m:=by
 rw [Nat.one_shiftLeft];exact Nat.or_lt_two_pow hs (Nat.pow_lt_pow_right (by decide) hi)
theorem G0_ {n m:Nat} (Fb:n<=m):∀ (k f s:Nat),s<2^m->k<=n->∀ x∈fm n k f s,x<2^m
 | 0,f,s,hs,_,x,hx=>by
  rw [fm,List.mem_singleton] at hx;rw [hx];exact hs
 | k+1,f,s,hs,hk,x,hx=>by
  rw [fm,List.mem_flatMap] at hx;obtain ⟨d,hd,hx⟩:=hx;have:=List.mem_range.1 hd;exact G0_ Fb k _ _ (Z61 hs (by omega)) (by omega) x hx
theorem lf {n k:Nat} (hn:n<=12) (hk:k<=n):∀ x∈aJ n k,x<4096:=G0_ hn k 0 0 (by decide) hk
theorem jI {n k:Nat} (hn:n<=12) (hk:k<=n):(aJ n k).length<=924:=by
 have h:∀ m,m<=12->∀ j,j<=m->(aJ m j).length<=924:=by decide +kernel
 exact h n hn k hk
def aT (s:Nat):List Nat:=(List.range 12).filter fun i=>s.testBit i
def iu (s:Nat):Nat:=(aT s).headD 0
theorem D9_:∀ s,s<4096->s≠0->aT s=iu s::aT (s &&& (s-1)):=by
 have h:∀ a,a<64->∀ b,b<64->64*a+b≠0->aT (64*a+b)=iu (64*a+b)::aT ((64*a+b) &&& (64*a+b-1)):=by decide +kernel
 intro s hs h0;have:=h (s / 64) (by omega) (s%64) (by omega) (by omega)
 rwa [Nat.div_add_mod] at this
theorem n8_:∀ s,s<4096->s≠0->s &&& (s-1)<s:=by
 have h:∀ a,a<64->∀ b,b<64->64*a+b≠0->(64*a+b) &&& (64*a+b-1)<64*a+b:=by decide +kernel
 intro s hs h0;have:=h (s / 64) (by omega) (s%64) (by omega) (by omega)
 rwa [Nat.div_add_mod] at this
def gS (s:List Nat):Nat:=match s.getLast? with | some x=>x+1 | none=>0
def fO (n:Nat) (l:List (List Nat)):List (List Nat):=l.flatMap fun s=>(List.range' (gS s) (n-gS s)).map fun x=>s++[x]
def bH (n:Nat):Nat->List (List Nat)
 | 0=>[[]]
 | k+1=>fO n (bH n k)
def jC (n k:Nat) (s:List Nat):Nat->Option Nat
 | 0=>none
 | i+1=>if s.getD i 0+k=n+i then jC n k s i else some i
def kQ (n k:Nat) (s:List Nat):Option (List Nat):=match jC n k s k with
 | none=>none
 | some i=>some (s.take i++(List.range (k-i)).map fun j=>s.getD i 0+1+j)
def jO (s:List Nat):Nat:=s.foldl (fun a x=>a*16+x) 0
def ku (n k:Nat):List (List Nat)->Bool
 | []=>false
 | [s]=>decide (kQ n k s=none)
 | s::t::l=>decide (kQ n k s=some t) && (decide (jO s<jO t) && ku n k (t::l))
def Z69 (n k:Nat) (s:List Nat):Bool:=decide (s.length=k) && (s.all (fun x=>decide (x<n)) && decide (jO s<1000000000000000000))
def eU (n:Nat):Nat->Nat
 | 0=>1
 | i+1=>eU n i*(n-i) / (i+1)
def Z4W (n k:Nat):Bool:=decide ((bH n k).head?=some (List.range k)) && ku n k (bH n k) && (bH n k).all (Z69 n k) && decide (eU n k=(bH n k).length) && decide ((bH n k).length<=1000)
theorem Z4u:∀ n,n<13->∀ k,k<n+1->Z4W n k=true:=by decide +kernel
theorem u5_ {n k:Nat}:∀ {l:List (List Nat)},ku n k l=true->∀ (i:Nat) s,l[i]?=some s->kQ n k s=l[i+1]?
 | [],h,i,s,hs=>by simp at hs
 | [t],h,i,s,hs=>by
  cases i with
  | zero =>
   simp only [oP,Option.some.injEq] at hs;subst hs;simpa [ku] using h
  | succ i=>simp at hs
 | a::b::l,h,i,s,hs=>by
  simp only [ku,Bool.and_eq_true,decide_eq_true_eq] at h;cases i with
  | zero =>
   simp only [oP,Option.some.injEq] at hs;subst hs;simpa using h.1
  | succ i =>
   rw [oO] at hs |-;exact u5_ h.2.2 i s hs
theorem g6_ {n k:Nat}:∀ {l:List (List Nat)},ku n k l=true->∀ (i:Nat) s t,l[i]?=some s->l[i+1]?=some t->jO s<jO t
 | [],h,i,s,t,hs,ht=>by simp at hs
 | [a],h,i,s,t,hs,ht=>by simp at ht
 | a::b::l,h,i,s,t,hs,ht=>by
  simp only [ku,Bool.and_eq_true,decide_eq_true_eq] at h;cases i with
  | zero =>
   simp only [oP,oO,Option.some.injEq] at hs ht;subst hs;subst ht;exact h.2.1
  | succ i =>
   rw [oO] at hs ht;exact g6_ h.2.2 i s t hs ht
structure Z5N (n k:Nat) (L:List (List Nat)):Prop where
 head:L[0]?=some (List.range k)
 next:∀ (i:Nat) s,L[i]?=some s->kQ n k s=L[i+1]?
 len:∀ s∈L,s.length=k
 lt:∀ s∈L,∀ x∈s,x<n
 up:∀ (i:Nat) s t,L[i]?=some s->L[i+1]?=some t->jO s<jO t
 bd:∀ s∈L,jO s<1000000000000000000
theorem jY {n k:Nat} (hn:n<=12) (hk:k<=n):Z5N n k (bH n k)/\eU n k=(bH n k).length/\(bH n k).length<=1000:=by
 have h:=Z4u n (by omega) k (by omega);simp only [Z4W,Bool.and_eq_true,decide_eq_true_eq,List.all_eq_true,Z69] at h;obtain ⟨⟨⟨⟨h1,h2⟩,h3⟩,h4⟩,h5⟩:=h;exact ⟨⟨by rw [<- List.head?_eq_getElem?];exact h1,u5_ h2,fun s hs=>(h3 s hs).1,fun s hs=>(h3 s hs).2.1,g6_ h2,fun s hs=>(h3 s hs).2.2⟩,h4,h5⟩
def be (n k s:Nat):Nat:=(aJ n k).findIdx (· == s)
def jJ (s i:Nat):Nat:=((aT s).filter fun j=>decide (j<i)).length
def cK (s t:Nat):Bool:=decide (((aT s).map (jJ t)).sum%2=1)
def fF:Nat->List Nat->List Nat->Option (List Nat)
 | 0,_,_=>none
 | _+1,[],b=>some b
 | _+1,a,[]=>some a
 | f+1,x::a,y::b=>if x=y then none else if x<y then (fF f a (y::b)).map (x::·) else (fF f (x::a) b).map (y::·)
def fS (a b:List Nat):Option (List Nat):=fF (a.length+b.length+1) a b
def lN (l:List (List Nat)) (s:List Nat):Nat:=l.findIdx (· == s)
def nK:List Nat->Nat
 | []=>0
 | x::l=>(l.filter fun y=>decide (y<x)).length+nK l
def eM (l:List Nat):Bool:=decide (nK l%2=1)
def Z0Z (n k:Nat):Bool:=decide ((aJ n k).map aT=bH n k) && ((aJ n k).all fun s=>decide (be n k s=lN (bH n k) (aT s)) && decide (be n k s<(bH n k).length))
theorem v6_:∀ n,n<7->∀ k,k<n+1->Z0Z n k=true:=by decide +kernel
theorem mi:∀ n,n<13->∀ k,k<n+1->(aJ n k).length=(bH n k).length:=by decide +kernel
def Z62 (n a b:Nat):Bool:=(aJ n a).all fun s=>(aJ n b).all fun t =>
 if s &&& t=0 then decide (fS (aT s) (aT t)=some (aT (s ||| t))) && (decide ((s ||| t)∈aJ n (a+b)) && decide (cK s t=eM (aT s++aT t))) else decide (fS (aT s) (aT t)=none)
theorem Z4c:∀ n,n<6->∀ a,a<n+1->∀ b,b<n+1-a->Z62 n a b=true:=by decide +kernel
def gM (l:List Int) (p:Nat) (x:Int):List Int:=l.set p (l.getD p 0+x)
theorem Z0Y (l:List Int) (p:Nat) (x:Int):(gM l p x).length=l.length:=by unfold gM;simp
def bu (x:Int) (o:Bool):Int:=if o=true then -x else x
theorem mQ (x:Int) (o:Bool):(bu x o).natAbs=x.natAbs:=by unfold bu;split <;> simp
def jZ (n ka kb:Nat) (A B:List Int) (i k:Nat) (acc:List Int):List Int :=
 if (aJ n ka).getD i 0 &&& (aJ n kb).getD k 0≠0\/A.getD i 0=0\/B.getD k 0=0 then acc
 else gM acc (be n (ka+kb) ((aJ n ka).getD i 0 ||| (aJ n kb).getD k 0)) (bu (A.getD i 0*B.getD k 0) (cK ((aJ n ka).getD i 0) ((aJ n kb).getD k 0)))
def db (n ka kb:Nat) (A B:List Int) (i:Nat) (acc:List Int):Nat->List Int
 | 0=>acc
 | k+1=>jZ n ka kb A B i k (db n ka kb A B i acc k)
def cV (n ka kb:Nat) (A B:List Int):Nat->List Int
 | 0=>List.replicate (aJ n (ka+kb)).length 0
 | i+1=>db n ka kb A B i (cV n ka kb A B i) (aJ n kb).length
def gh (n ka kb:Nat) (A B:List Int):List Int:=cV n ka kb A B (aJ n ka).length
theorem Z2P (n ka kb:Nat) (A B:List Int) (i k:Nat) (acc:List Int):(jZ n ka kb A B i k acc).length=acc.length:=by
 unfold jZ;split
 ·rfl
 ·exact Z0Y _ _ _
theorem L3_ (n ka kb:Nat) (A B:List Int) (i:Nat) (acc:List Int):∀ k,(db n ka kb A B i acc k).length=acc.length
 | 0=>rfl
 | k+1=>by rw [db,Z2P,L3_ n ka kb A B i acc k]
theorem V6_ (n ka kb:Nat) (A B:List Int):∀ i,(cV n ka kb A B i).length=(aJ n (ka+kb)).length
 | 0=>by rw [cV,List.length_replicate]
 | i+1=>by rw [cV,L3_,V6_ n ka kb A B i]
def eA (N:Nat) (l:List Int):Prop:=∀ x∈l,x.natAbs<=N
theorem eA.getD {N:Nat} {l:List Int} (h:eA N l) (i:Nat):(l.getD i 0).natAbs<=N:=by
 rw [oC];cases hx:l[i]? with
 | none=>simp
 | some x=>exact h x (oD hx)
theorem eA.addAt {N K:Nat} {l:List Int} (h:eA N l) {p:Nat} {x:Int} (hx:x.natAbs<=K):eA (N+K) (gM l p x):=by
 intro y hy;unfold Go.Proofs.YtjlkkofmojgipaaGreatDoor.gM at hy;rcases List.mem_or_eq_of_mem_set hy with hy | hy
 ·have:=h y hy;omega
 ·have:=h.getD p;rw [hy];omega
theorem Z4x {n ka kb:Nat} {A B acc:List Int} {N M K:Nat} (hA:eA N A) (hB:eA M B) (h:eA K acc) (i k:Nat):eA (K+N*M) (jZ n ka kb A B i k acc):=by
 unfold jZ
 split
 ·intro x hx;have:=h x hx;omega
 ·refine h.addAt ?_;rw [mQ,Int.natAbs_mul];exact Nat.mul_le_mul (hA.getD i) (hB.getD k)
theorem i2_ {n ka kb:Nat} {A B acc:List Int} {N M K:Nat} (hA:eA N A) (hB:eA M B) (h:eA K acc) (i:Nat):∀ k,eA (K+k*(N*M)) (db n ka kb A B i acc k)
 | 0=>by rw [db,Nat.zero_mul,Nat.add_zero];exact h
 | k+1=>by
  have:=Z4x (n:=n) (ka:=ka) (kb:=kb) hA hB (i2_ (n:=n) (ka:=ka) (kb:=kb) hA hB h i k) i k;rw [db,Nat.succ_mul,<- Nat.add_assoc];exact this
theorem p3_ {n ka kb:Nat} {A B:List Int} {N M:Nat} (hA:eA N A) (hB:eA M B):∀ i,eA (i*((aJ n kb).length*(N*M))) (cV n ka kb A B i)
 | 0=>by
  intro x hx;rw [cV] at hx;rw [(List.mem_replicate.1 hx).2];simp
 | i+1=>by
  have:=i2_ (n:=n) (ka:=ka) (kb:=kb) hA hB (p3_ (n:=n) (ka:=ka) (kb:=kb) hA hB i) i (aJ n kb).length;rw [cV,Nat.succ_mul];exact this
def ec (n s:Nat):Nat:=(2^n-1) ^^^ s
def Z5d (n k:Nat) (X:List Int):List Int:=(aJ n (n-k)).map fun s=>bu (X.getD (be n k (ec n s)) 0) (cK (ec n s) s)
def dy (n k:Nat) (X r:List Int) (s:Nat):Nat->Int
 | 0=>0
 | i+1=>if s.testBit i=true then dy n k X r s i else dy n k X r s i+bu (r.getD i 0*X.getD (be n k (s ||| (1 <<< i))) 0) (cK (1 <<< i) s)
def Z6p (n k:Nat) (X r:List Int):List Int:=(aJ n (k-1)).map fun s=>dy n k X r s n
def cM (X:List Int) (i:Nat):Nat:=(X.take i).foldl (fun g x=>Nat.gcd g x.natAbs) 0
def az (X:List Int):Nat:=cM X X.length
theorem kD {X:List Int} {i:Nat} {x:Int} (h:X[i]?=some x):cM X (i+1)=Nat.gcd (cM X i) x.natAbs:=by
 unfold cM;rw [oG,h,List.foldl_append];rfl
def cu (X:List Int):Int:=match X.find? (·≠0) with | some x=>x.sign | none=>0
theorem nj {n k:Nat} (hn:n<7) (hk:k<=n):(aJ n k).map aT=bH n k:=by
 have h:=v6_ n hn k (by omega);unfold Z0Z at h;simp only [Bool.and_eq_true,decide_eq_true_eq] at h;exact h.1
theorem c1_ {n k i s:Nat} (hn:n<7) (hk:k<=n) (h:(aJ n k)[i]?=some s):(bH n k)[i]?=some (aT s):=by
 rw [<- nj hn hk,oE,h];rfl
theorem S8_ {n k s:Nat} (hn:n<7) (hk:k<=n) (h:s∈aJ n k):be n k s=lN (bH n k) (aT s)/\be n k s<(aJ n k).length:=by
 have h2:=v6_ n hn k (by omega);unfold Z0Z at h2;simp only [Bool.and_eq_true,decide_eq_true_eq,List.all_eq_true] at h2;have h3:=h2.2 s h;have h4:=mi n (by omega) k (by omega);exact ⟨h3.1,by omega⟩
theorem Z4d {n a b s t:Nat} (hn:n<6) (ha:a<=n) (hb:a+b<=n) (hs:s∈aJ n a) (ht:t∈aJ n b) :
  (s &&& t=0/\fS (aT s) (aT t)=some (aT (s ||| t))/\(s ||| t)∈aJ n (a+b)/\cK s t=eM (aT s++aT t))\/(s &&& t≠0/\fS (aT s) (aT t)=none):=by
 have h:=Z4c n hn a (by omega) b (by omega);unfold Z62 at h;have h2:=List.all_eq_true.1 (List.all_eq_true.1 h s hs) t ht;by_cases h0:s &&& t=0
 ·rw [if_pos h0] at h2;simp only [Bool.and_eq_true,decide_eq_true_eq] at h2;exact .inl ⟨h0,h2.1,h2.2.1,h2.2.2⟩
 ·rw [if_neg h0] at h2;exact .inr ⟨h0,of_decide_eq_true h2⟩
def Z66 (n k:Nat):Bool:=(aJ n (n-k)).all fun s=>decide (ec n s∈aJ n k) && decide ((List.range n).filter (fun i=>!(aT s).contains i)=aT (ec n s))
theorem Z4p:∀ n,n<7->∀ k,k<n+1->Z66 n k=true:=by decide +kernel
theorem Z4q {n k s:Nat} (hn:n<7) (hk:k<=n) (hs:s∈aJ n (n-k)):ec n s∈aJ n k/\(List.range n).filter (fun i=>!(aT s).contains i)=aT (ec n s):=by
 have h:=Z4p n hn k (by omega);unfold Z66 at h;have h2:=List.all_eq_true.1 h s hs;simp only [Bool.and_eq_true,decide_eq_true_eq] at h2;exact h2
theorem Z1F {n:Nat} (hn:n<7):aJ n 0=[0]:=by
 have h:∀ m,m<7->aJ m 0=[0]:=by decide +kernel
 exact h n hn
theorem Z3I:(prog.info? 100).map (fun i=>(i.zero,i.size,i.bytes))=some (some (.int .u64 0),1,8):=by kernel_rfl
def u64C (_:World) (u:List Value) (x:Nat):Prop:=u=[.int .u64 (x:Int)]
theorem u64C.mono:jF u64C:=fun _ _ _ _ _ h=>h
abbrev ko (w:World) (v:Value) (xs:List Nat):Prop:=aI 1 u64C w v xs
theorem ko.ext {w w':World} {v:Value} {xs:List Nat} (h:ko w v xs) (he:aC w w'):ko w' v xs:=aI.ext u64C.mono h he
theorem ko.open {w:World} {v:Value} {xs:List Nat} (h:ko w v xs):∃ (a:Option Addr) (cap:Nat),v=.slice a xs.length cap/\xs.length<=cap/\cap<=maxLen /\
  (xs≠[]->∃ b off,a=some ⟨b,off,none⟩/\b<w.heap.size/\∀ (j:Nat) x,xs[j]?=some x->w.cell? ⟨b,off+j,none⟩=some (.int .u64 (x:Int))):=by
 obtain ⟨a,cap,hv,h1,h2,-,h4⟩:=aI.open h;refine ⟨a,cap,hv,h1,h2,fun hne=>?_⟩;obtain ⟨b,off,ha,hb,hc⟩:=h4 (by decide) hne;refine ⟨b,off,ha,hb,fun j x hx=>?_⟩;obtain ⟨u,hu,hr,hcell⟩:=hc j x hx;have:=hcell 0 (by decide);rw [hr] at this;simpa using this
theorem aZ.box {w:World} {base:Nat} {e:TypeId} {v:Value} {xs:List Nat} (h:aZ w base e 1 v u64C xs) {g:Nat} (hg:g<base) (y:Value):aZ (w.setCell ⟨g,0,none⟩ y) base e 1 v u64C xs:=by
 obtain ⟨us,h1,h2,h3,h4⟩:=h;refine ⟨us,h1,h2,ownsRow_setCell_other h3 (fun e=>?_) y,fun j u x hu hx w' _=>(h4 j u x hu hx).now⟩;have:=(h3.lt g e).1;omega
def Z4N (g base:Nat) (L:List Nat) (w:World) (e:Ending) (w':World):Prop :=
 e=.returned (.tuple #[])/\Below g w w'/\∃ so,w'.heap[g]?=some (.cells #[so] 98 (0,0))/\aZ w' base 100 1 so u64C L
theorem Z3b (s g base:Nat) (w:World) (so:Value) (L:List Nat) (hg:w.heap[g]?=some (.cells #[so] 98 (0,0))) (hB:aZ w base 100 1 so u64C L) (qe:g<base) (ow:base<=w.heap.size) (hl:L.length<1000000) :
  Calls prog 118 #[.int .u64 (s:Int),.pointer (some ⟨g,0,none⟩)] w (Z4N g base (L++[s]) w):=by
 have k0:=aN hg 0;simp only [oQ,oP] at k0;have HB:=n8 hB;have HG:=n8 hg;obtain ⟨a,c,rfl,pJ,pT,-⟩:=aI.open hB.list;unfold maxLen at pT;have HN:=n8 (fun b=>hB.lt b);obtain ⟨n,hn⟩:∃ n,L.length=n:=⟨_,rfl⟩;rw [hn] at HB HG k0 pJ HN hl;have ve:L.length<1000000:=by omega
 have HL2:=n8 ve;clear hg hB hn ve
 go_enter func118,ntmps118
 go_wp2_with (at_builtin;go_must (refine ee _ rfl _ _ 98 rfl base 100 (.int .u64 0) 1 8 underlying98 Z3I rfl (by decide) (.slice a n c) u64C L s #[.int .u64 (s:Int)] 100 rfl HB rfl rfl ?e1 (fun _ _=>rfl) HL2 ?e3 ow ?_))
 case e1=>simp [Value.oneCell']
 case e3=>omega
 intro v' w5 o8 pc hb5 rB _;have HB5:=n8 o8;have hE:Below g w w5:=Below.mono hb5 (by omega);have hk:=(Below.block hb5 g qe).trans HG;have HE:=n8 hE;have HK:=n8 hk;have k1:=aN hk 0;have f1:=cD hk 0;simp only [oQ,oP] at k1;obtain ⟨a2,c2,rfl,-⟩:=aI.open o8.list;clear o8 pc hb5 hE hk k0;go_wp2_with fail;have hfin:=fA HK 0 (Value.slice a2 (L++[s]).length c2);refine bodyPost_end (results_none rfl _ _ _) rfl ⟨rfl,HE.setCell (oJ _) _,_,by simpa using hfin,HB5.box qe _⟩
def B5_ (n g base k:Nat):Prop:=∀ (f s:Nat) (w:World) (so:Value) (L:List Nat),f<=n->s<4096->k<=n->w.heap[g]?=some (.cells #[so] 98 (0,0))->aZ w base 100 1 so u64C L->g<base->base<=w.heap.size->L.length+(fm n k f s).length<=1000 ->
 Calls prog 117 #[.int .i64 f,.int .i64 n,.int .i64 k,.int .u64 (s:Int),.func (.func 118) #[] #[.pointer (some ⟨g,0,none⟩)]] w (Z4N g base (L++fm n k f s) w)
theorem Z0U (n g base:Nat) (hn:n<=12):B5_ n g base 0:=by
 intro f s w so L hf hs hk hg hB qe ow hl;have HA:=n8 (Z3b s g base w so L hg hB qe ow (by rw [fm] at hl;simp at hl;omega));have HW:Hid (fm n 0 f s=[s]):=rfl;rw [HW.out];clear hg hB hl
 go_enter func117,ntmps117
 go_wp2_with fail;refine HA.mono ?_;rintro e w1 ⟨rfl,h1,h2⟩;have H1:=n8 h1;have H2:=n8 h2;clear h1 h2 HA;go_wp2_with fail;refine bodyPost_ret (results_none rfl _ _ _) rfl ⟨rfl,H1,H2⟩
theorem k7_ (i:Nat) (hi:i<12):IntKind.u64.wrap ((2:Int)^i)=((1 <<< i:Nat):Int)/\(1 <<< i)<4096:=by
 have h:∀ j,j<12->IntKind.u64.wrap ((2:Int)^j)=((1 <<< j:Nat):Int)/\(1 <<< j)<4096:=by decide +kernel
 exact h i hi
theorem Z0T (n g base k:Nat) (hn:n<=12) (ih:B5_ n g base k):B5_ n g base (k+1):=by
 intro f s w so L hf hs hk hg hB qe ow hl;have HIH:=n8 ih;have HG:=n8 hg;have HB:=n8 hB;have HLN:=n8 hl;have HKN:=n8 hk;have HSL:=n8 hs;obtain ⟨K,hK⟩:∃ K,k+1=K:=⟨_,rfl⟩;have He:Hid (fm n K f s=gI n k f s (n-k-f)):=by rw [<- hK];exact h4_ n k f s
 rw [hK] at HLN hk |-;have HK:=n8 hK;have zP:((K:Int) == 0)=false:=beq_eq_false_iff_ne.2 (by omega);clear hg hB hl ih hK
 go_enter func117,ntmps117
 go_wp2_with fail;clear zP
 go_loopw [10] (fun t wr=>∃ d:Nat,d<=n-k-f/\t=.int .i64 ((f+d:Nat):Int)/\Hid (Below g w wr)/\Hid (∃ so,wr.heap[g]?=some (.cells #[so] 98 (0,0))/\aZ wr base 100 1 so u64C (L++gI n k f s d))) (fun t _=>(n:Int).toNat+1-(intOf t).toNat)
 case atStart=>exact ⟨0,by omega,by simp,Below.refl _ _,_,HG,by simpa [gI] using HB.out⟩
 case round =>
  obtain ⟨d,hd,rfl,HX,HBB⟩:=hrel;obtain ⟨wo,rfl⟩:∃ wo:World,wo=wr:=⟨_,rfl⟩;by_cases hlt:d<n-k-f
  ·obtain ⟨Kk,sS,hB2⟩:=HBB.out;obtain ⟨i,hi⟩:∃ i,f+d=i:=⟨_,rfl⟩;rw [hi];obtain ⟨e1,e2⟩:=k7_ i (by omega);obtain ⟨m,hm⟩:∃ m:Nat,1 <<< i=m:=⟨_,rfl⟩;rw [hm] at e1 e2;have e3:=bits_or_u64_nat s m (by have:=HSL.out;omega) (by omega);have Ix:s ||| m<4096:=by rw [<- hm];exact Z61 (m:=12) HSL (by omega)
   have hlen:(L++gI n k f s d).length+(fm n k (i+1) (s ||| m)).length<=1000:=by
    have h1:=HLN.out;rw [He.out] at h1;have h2:=N7_ n k f s d;rw [hi,hm] at h2;have h4:=congrArg List.length h2;rw [oU] at h4;have h3:(gI n k f s (d+1)).length<=(gI n k f s (n-k-f)).length:=by
     unfold gI;obtain ⟨r,hr⟩:∃ r,n-k-f=d+1+r:=⟨n-k-f-(d+1),by omega⟩;have e9:List.range (d+1+r)=List.range (d+1)++(List.range r).map (d+1+·):=List.range_add ..;rw [hr,e9,List.flatMap_append,oU];exact Nat.le_add_right _ _
    rw [oU];omega
   have HC:=n8 (HIH (i+1) (s ||| m) wo Kk (L++gI n k f s d) (by omega) Ix (by omega) sS hB2 qe (by have:=(Below.size HX);omega) hlen);have HS:Hid ((L++gI n k f s d)++fm n k (i+1) (s ||| m)=L++gI n k f s (d+1)):=by
    have h2:=N7_ n k f s d;rw [hi,hm] at h2;unfold Hid;rw [h2,List.append_assoc]
   rw [HS.out] at HC;obtain ⟨q,hq⟩:∃ q,s ||| m=q:=⟨_,rfl⟩;rw [hq] at e3 HC;have c1:(i:Int)<=(n:Int)-(K:Int):=by have:=HK.out;omega
   have c2:IntKind.i64.wrap ((i:Int)+1)=((i+1:Nat):Int):=by rw [IntKind.wrap_i64];omega
   have c3:IntKind.i64.wrap ((K:Int)-1)=(k:Int):=by have:=HK.out;rw [IntKind.wrap_i64];omega
   have c4:0<=(i:Int):=by omega
   have c5:(i:Int)<=64:=by omega
   have HII:=n8 hi;clear sS hB2 Ix hlen hm hq HS HBB hi e2;go_wp2_with fail;refine HC.mono ?_;rintro e w6 ⟨rfl,og,Jh⟩;have HE6:=n8 (HX.trans og);have HR6:=n8 Jh;clear og Jh HC;go_wp2_with fail;go_roundw
   case rel=>exact ⟨d+1,by omega,by have:=HII.out;first | (congr 1;omega) | go_num,HE6,HR6⟩
   case measure=>have:=HII.out;simp [intOf];omega
  ·obtain rfl:d=n-k-f:=by omega
   obtain ⟨i,hi⟩:∃ i,f+(n-k-f)=i:=⟨_,rfl⟩;rw [hi];have c1:¬ (i:Int)<=(n:Int)-(K:Int):=by have:=HKN.out;have:=HK.out;omega
   have hR:=HBB.out;rw [<- He.out] at hR;have HR:=n8 hR;clear hR HBB hi;go_wp2_with fail;refine bodyPost_end (results_none rfl _ _ _) rfl ⟨rfl,HX,HR⟩
theorem n6_ (n g base:Nat) (hn:n<=12):∀ k,B5_ n g base k
 | 0=>Z0U n g base hn
 | k+1=>Z0T n g base k hn (n6_ n g base hn k)
def mg (L:List Nat) (w:World) (e:Ending) (w':World):Prop:=∃ v,e=.returned v/\aC w w'/\ko w' v L
theorem lg (n k:Nat) (hn:n<=12) (hk:k<=n) (w:World):Calls prog 60 #[.int .i64 n,.int .i64 k] w (mg (aJ n k) w):=by
 obtain ⟨w1,o4⟩:∃ w1,w1=w.alloc (.cells #[.slice none 0 0] 98):=⟨_,rfl⟩;have hb:w1.heap[w.heap.size]?=some (.cells #[.slice none 0 0] 98 (0,0)):=by rw [o4];exact ic w _ _
 have hsz:w1.heap.size=w.heap.size+1:=by rw [o4];exact World.size_alloc w _
 have hE1:aC w w1:=by rw [o4];exact aC.alloc _ _
 have HC:=n8 (n6_ n w.heap.size (w.heap.size+1) hn k 0 0 w1 (.slice none 0 0) [] (by omega) (by decide) hk hb (aZ.nil _ _ _ _ _) (by omega) (by omega) (by have:=jI hn hk;unfold aJ at this;simp;omega));have HE1:=n8 hE1;clear hb hsz hE1;rw [List.nil_append] at HC
 go_enter func60,ntmps60
 go_wp2_with fail;generalize pO:w.alloc _=w9;obtain rfl:w9=w1:=by rw [<- pO,o4]
 refine HC.mono ?_;rintro e w2 ⟨rfl,h2,so,sS,hB2⟩;have k0:=aN sS 0;simp only [oQ,oP] at k0;have hE:aC w w2:=Below.trans HE1 h2;have HE:=n8 hE;have HL:=n8 hB2.list;clear sS hB2 h2 hE;go_wp2_with fail;go_ret;exact ⟨_,rfl,HE,HL⟩
def lA (n k:Int):Int:=if n<0\/n > 12\/k<0\/k > n then 3 else 0
theorem Z1E {n k:Nat} (hn:n<=12) (hk:k<=n):lA n k=0:=if_neg (by omega)
theorem G4_ (n k:Int) (w:World):oW 77 #[.int .i64 n,.int .i64 k] w (.int .i64 (lA n k)):=by
 by_cases h1:n<0
 ·have HG:Hid (lA n k=3):=if_pos (.inl h1)
  go_enter func77,ntmps77
  go_wp2_with fail;go_ret;rw [HG.out];exact ⟨rfl,aC.refl _⟩
 ·by_cases h2:n > 12
  ·have HG:Hid (lA n k=3):=if_pos (.inr (.inl h2))
   go_enter func77,ntmps77
   go_wp2_with fail;go_ret;rw [HG.out];exact ⟨rfl,aC.refl _⟩
  ·by_cases h3:k<0
   ·have HG:Hid (lA n k=3):=if_pos (.inr (.inr (.inl h3)))
    go_enter func77,ntmps77
    go_wp2_with fail;go_ret;rw [HG.out];exact ⟨rfl,aC.refl _⟩
   ·by_cases h4:k > n
    ·have HG:Hid (lA n k=3):=if_pos (.inr (.inr (.inr h4)))
     go_enter func77,ntmps77
     go_wp2_with fail;go_ret;rw [HG.out];exact ⟨rfl,aC.refl _⟩
    ·have HG:Hid (lA n k=0):=if_neg (by omega)
     go_enter func77,ntmps77
     go_wp2_with fail;go_ret;rw [HG.out];exact ⟨rfl,aC.refl _⟩
theorem a4_ (u v:Nat) (w:World) (hu:(aE u).size<=3000000000) (hv:(aE v).size<=3000000000) (ht:af w) :
  oW 182 #[.string (aE u),.string (aE v)] w (.string (aE (Nat.gcd u v))):=by
 have HT:=n8 ht;have HU:=n8 hu;have HV:=n8 hv;clear ht hu hv
 go_enter func182,ntmps182
 go_wp2_with fail
 go_loopw [0,1] (fun a b wr=>∃ x y:Nat,a=.string (aE x)/\b=.string (aE y)/\Hid (Nat.gcd x y=Nat.gcd u v)/\Hid ((aE x).size<=3000000000)/\Hid ((aE y).size<=3000000000)/\Hid (aC w wr)) (fun _ b _=>match b with | .string s=>ak 0 s.data.toList | _=>0)
 case atStart=>exact ⟨u,v,rfl,rfl,rfl,HU,HV,aC.refl _⟩
 case round =>
  obtain ⟨x,y,rfl,rfl,HG,HX,HY,HE⟩:=hrel;obtain ⟨wo,rfl⟩:∃ wo:World,wo=wr:=⟨_,rfl⟩;have hz:=mE y;by_cases hy:y=0
  ·rw [oS hy] at hz;have HF:Hid (x=Nat.gcd u v):=by unfold Hid;rw [<- HG.out,hy,Nat.gcd_zero_right]
   clear hy;go_wp2_with fail;go_ret;exact ⟨by rw [<- HF.out];rfl,HE⟩
  ·rw [oR hy] at hz;have HD:=n8 (T4_ x y wo HX HY hy (HT.ext HE));have HG2:Hid (Nat.gcd y (x%y)=Nat.gcd u v):=by
    unfold Hid;rw [<- HG.out,Nat.gcd_comm y (x%y),<- Nat.gcd_rec,Nat.gcd_comm]
   have A0:Hid ((aE (x%y)).size<=3000000000):=oI (gY (Nat.le_of_lt (Nat.mod_lt _ (by omega)))) HY;have HLT:Hid (x%y<y):=Nat.mod_lt _ (by omega);have qI:Hid (∀ n,ak 0 (aE n).data.toList=n):=fun n=>by rw [ep,fx]
   clear hy;go_wp2_with fail;refine HD.mono ?_;rintro e w1 ⟨rfl,hE1⟩;have HE1:=n8 (aC.trans HE hE1);clear hE1 HD;go_wp2_with fail;go_roundw
   case rel=>exact ⟨y,x%y,rfl,rfl,HG2,HY,A0,HE1⟩
   case measure=>simp only [qI.out];exact HLT
theorem Z5f (u v:Nat) (w:World) (hu:u<1000000000000000000) (hv:v<1000000000000000000) :
  oW 181 #[.int .i64 u,.int .i64 v] w (.int .i64 (Nat.gcd u v:Nat)):=by
 go_enter func181,ntmps181
 go_wp2_with fail
 go_loopw [0,1] (fun a b wr=>∃ x y:Nat,a=.int .i64 x/\b=.int .i64 y/\x<1000000000000000000/\y<1000000000000000000/\Hid (Nat.gcd x y=Nat.gcd u v)/\Hid (aC w wr)) (fun _ b _=>(intOf b).toNat)
 case atStart=>exact ⟨u,v,rfl,rfl,hu,hv,rfl,aC.refl _⟩
 case round =>
  obtain ⟨x,y,rfl,rfl,hx,hy,HG,HE⟩:=hrel;obtain ⟨wo,rfl⟩:∃ wo:World,wo=wr:=⟨_,rfl⟩;by_cases pR:y=0
  ·have HF:Hid (x=Nat.gcd u v):=by unfold Hid;rw [<- HG.out,pR,Nat.gcd_zero_right]
   subst pR;go_wp2_with fail;go_ret;exact ⟨by rw [<- HF.out];rfl,HE⟩
  ·have HG2:Hid (Nat.gcd y (x%y)=Nat.gcd u v):=by
    unfold Hid;rw [<- HG.out,Nat.gcd_comm y (x%y),<- Nat.gcd_rec,Nat.gcd_comm]
   obtain ⟨r,hr⟩:∃ r,r=x%y:=⟨_,rfl⟩;rw [<- hr] at HG2;have Cd:r<y:=by rw [hr];exact Nat.mod_lt _ (by omega)
   have xF:(x:Int)%(y:Int)=(r:Int):=by rw [hr];exact (Int.natCast_emod _ _).symm
   have Fi:(x:Int).tmod (y:Int)=(r:Int):=by rw [Int.tmod_eq_emod_of_nonneg (by omega),xF]
   have Kr:((y:Int) == 0)=false:=by rw [beq_eq_false_iff_ne];omega
   have E2:((y:Int) != 0)=true:=by simp;omega
   have Kq:¬ (y:Int)=0:=by omega
   clear hr;go_wp2_with fail
   go_quiet (fail)
   go_wp2_with fail;go_roundw
   case rel=>exact ⟨y,r,rfl,rfl,hy,by omega,HG2,aC.draws HE _⟩
   case measure=>simp [intOf];omega
theorem f5_ (x y:Int) (w:World) (hx:(aD x).size<=2800000000) (hy:(aD y).size<=2800000000) (ht:af w) :
  oW 134 #[.string (aD x),.string (aD y)] w (.string (aE (Nat.gcd x.natAbs y.natAbs))):=by
 have HT:=n8 ht;clear ht;have hax:=d_ x;have hay:=d_ y;have eb:∀ n:Nat,aD (n:Int)=aE n:=fun n=>by rw [dC _ (by omega)];rfl
 have hA1:=Z0W x w;have hA2:=fun W=>Z0W y W;rw [eb] at hA1;simp only [eb] at hA2;have HA1:=n8 hA1;have tN:Hid (∀ W,oW 152 #[.string (aD y)] W (.string (aE y.natAbs))):=hA2;obtain ⟨u,hu⟩:∃ u,u=x.natAbs:=⟨_,rfl⟩;obtain ⟨v,hv⟩:∃ v,v=y.natAbs:=⟨_,rfl⟩;rw [<- hu] at HA1 hax |-;rw [<- hv] at tN hay |-;clear hA1 hA2 hu hv;by_cases hs:(aE u).size<=18/\(aE v).size<=18
 ·have hu1:=iy hs.1;have hv1:=iy hs.2;have h1:∀ W,Calls prog 119 #[.string (aD (u:Int)),.int .i64 18] W fun e w'=>e=.returned (.tuple #[.int .i64 (u:Int),.bool true])/\aC W w':=fun W=>fE (u:Int) 18 W (by omega) (by omega) (by rw [eb];exact hs.1) (by omega);have h2:∀ W,Calls prog 119 #[.string (aD (v:Int)),.int .i64 18] W fun e w'=>e=.returned (.tuple #[.int .i64 (v:Int),.bool true])/\aC W w':=fun W=>fE (v:Int) 18 W (by omega) (by omega) (by rw [eb];exact hs.2) (by omega);rw [eb] at h1 h2;have H1:=n8 h1;have H2:=n8 h2;have HG:=n8 (fun W=>Z5f u v W hu1 hv1);have hg:Nat.gcd u v<=u+v:=by
   by_cases h0:u=0
   ·rw [h0,Nat.gcd_zero_left];omega
   ·have:=Nat.gcd_le_left v (Nat.pos_of_ne_zero h0);omega
  obtain ⟨gg,ru⟩:∃ gg,gg=Nat.gcd u v:=⟨_,rfl⟩;rw [<- ru] at HG hg |-;have hO:∀ W,aC w W->Calls prog 64 #[.int .i64 (gg:Int)] W fun e w'=>e=.returned (.string (aD (gg:Int)))/\aC W w':=fun W hE=>lJ (gg:Int) W (by omega) (by omega) (HT.ext hE);rw [eb] at hO;have HO:=n8 hO;clear h1 h2 hO hs ru eb
  go_enter func134,ntmps134
  go_wp2_with fail;refine HA1.mono ?_;rintro e w1 ⟨rfl,hE1⟩;have HE1:=n8 hE1;clear hE1 HA1;go_wp2_with fail;refine (tN _).mono ?_;rintro e w2 ⟨rfl,oY⟩;have HE2:=n8 (aC.trans HE1 oY);clear oY tN;go_wp2_with fail;refine (H1 _).mono ?_;rintro e w3 ⟨rfl,oh⟩;have HE3:=n8 (aC.trans HE2 oh);clear oh H1;go_wp2_with fail;refine (H2 _).mono ?_;rintro e w4 ⟨rfl,hE4⟩;have HE4:=n8 (aC.trans HE3 hE4);clear hE4 H2;go_wp2_with fail;refine (HG _).mono ?_;rintro e w5 ⟨rfl,ou⟩;have HE5:=n8 (aC.trans HE4 ou);clear ou HG;go_wp2_with fail;refine (HO _ HE5).mono ?_;rintro e w6 ⟨rfl,og⟩;have HE6:=n8 (aC.trans HE5 og);clear og HO;go_wp2_with fail;go_ret;exact ⟨rfl,HE6⟩
 ·have HG:Hid (∀ W,aC w W->oW 182 #[.string (aE u),.string (aE v)] W (.string (aE (Nat.gcd u v)))):=fun W hE=>a4_ u v W (by omega) (by omega) (HT.ext hE);have pg:((aE u).size<=18/\18<(aE v).size)\/18<(aE u).size:=by omega
  have HY:Hid ((aE u).size<=18->∀ W,oW 119 #[.string (aE u),.int .i64 18] W (.tuple #[.int .i64 (u:Int),.bool true])):=by
   intro h W;have hb:=iy h;have:=fE (u:Int) 18 W (by omega) (by omega) (by rw [eb];exact h) (by omega);rw [eb] at this;exact this
  have KQ:Hid (∀ n:Nat,18<(aE n).size->∀ W,Calls prog 119 #[.string (aE n),.int .i64 18] W fun e w'=>e=.returned (.tuple #[.int .i64 0,.bool false])/\W=w'):=by
   intro n h W;have:=fD (n:Int) 18 W (by rw [eb];exact h);rw [eb] at this;exact this
  clear hs eb;rcases pg with ⟨hs1,hs2⟩ | hs1
  case' inl =>
   have H1:=n8 (HY hs1);have H2:=n8 (KQ v hs2);clear hs1 hs2
   go_enter func134,ntmps134
   go_wp2_with fail;refine HA1.mono ?_;rintro e w1 ⟨rfl,hE1⟩;have HE1:=n8 hE1;clear hE1 HA1;go_wp2_with fail;refine (tN _).mono ?_;rintro e w2 ⟨rfl,oY⟩;have HE2:=n8 (aC.trans HE1 oY);clear oY tN;go_wp2_with fail;refine (H1 _).mono ?_;rintro e w3 ⟨rfl,oh⟩;have HE3:=n8 (aC.trans HE2 oh);clear oh H1;go_wp2_with fail;refine (H2 _).mono ?_;rintro e w' ⟨rfl,rfl⟩;clear H2
  case' inr =>
   have H1:=n8 (KQ u hs1);clear hs1
   go_enter func134,ntmps134
   go_wp2_with fail;refine HA1.mono ?_;rintro e w1 ⟨rfl,hE1⟩;have HE1:=n8 hE1;clear hE1 HA1;go_wp2_with fail;refine (tN _).mono ?_;rintro e w2 ⟨rfl,oY⟩;have HE3:=n8 (aC.trans HE1 oY);clear oY tN;go_wp2_with fail;refine (H1 _).mono ?_;rintro e w' ⟨rfl,rfl⟩;clear H1
  all_goals
   go_wp2_with fail;refine (HG _ HE3).mono ?_;rintro e w5 ⟨rfl,ou⟩;have HE5:=n8 (aC.trans HE3 ou);clear ou HG;go_wp2_with fail;go_ret;exact ⟨rfl,HE5⟩
def bW (q:Rat):Value:=.agg #[.string (aD q.num),.string (aE q.den)]
def RS (k:Nat) (q:Rat):Prop:=(aD q.num).size<=k/\(aE q.den).size<=k
theorem RS.mono {k m:Nat} {q:Rat} (h:RS k q) (hk:k<=m):RS m q:=⟨oI h.1 hk,oI h.2 hk⟩
theorem eb (n:Nat):aD (n:Int)=aE n:=by rw [dC _ (by omega)];rfl
theorem X2_ (n:Int) (d:Nat) (hd:d≠0):(mkRat n d).num=n / (n.natAbs.gcd d:Nat)/\(mkRat n d).den=d / n.natAbs.gcd d:=by
 rw [<- Rat.normalize_eq_mkRat hd,Rat.normalize_eq hd];exact ⟨rfl,rfl⟩
theorem E5_ (n:Int) (d:Nat):Rat.divInt n (d:Int)=mkRat n d:=rfl
theorem E4_ (n:Int) (d:Nat) (hd:d≠0):Rat.divInt n (-(d:Int))=mkRat (-n) d:=by
 obtain ⟨m,rfl⟩:∃ m,d=m+1:=⟨d-1,by omega⟩;rw [<- Rat.normalize_eq_mkRat hd];rfl
theorem Z1v (x y:Int) (hy:0<y):aR x y=x / y:=by
 have h1:=lq x y;have h2:=kG x y hy;have h3:=Int.mul_ediv_add_emod x y;have h4:=Int.emod_nonneg x (show y≠0 by omega);have h5:=Int.emod_lt_of_pos x hy;generalize aR x y=q at *
 generalize bF x y=r at *
 generalize x / y=q' at *
 generalize x%y=r' at *
 have h6:y*(q-q')=r'-r:=by rw [Int.mul_sub];omega
 rcases Int.lt_trichotomy q q' with h | h | h
 ·have:y*(q-q')<=y*(-1):=Int.mul_le_mul_of_nonneg_left (by omega) (by omega);omega
 ·exact h
 ·have:y*1<=y*(q-q'):=Int.mul_le_mul_of_nonneg_left (by omega) (by omega);omega
theorem k6_ (u:Nat):((aE u).toList == [49])=decide (u=1):=by
 rw [jV,show ([49]:List UInt8)=Lib.decDigits 1 by rw [Lib.decDigits_one (by omega)];rfl,T6_]
theorem U8_ (q:Rat) (w:World) :
  oW 160 #[bW q] w (.int .i64 q.num.sign):=by
 have HS:=n8 (fun W=>ns q.num W);unfold bW
 go_enter func160,ntmps160
 go_wp2_with fail;refine (HS _).mono ?_;rintro e w' ⟨rfl,rfl⟩;go_wp2_with fail;go_ret;exact ⟨rfl,aC.alloc _ _⟩
theorem dr (w:World) (x y:Value) (T:TypeId):∃ W,(w.alloc (.cells #[x,y] T))=W/\aC w W/\W.heap.size=w.heap.size+1/\W.heap[w.heap.size]?=some (.cells #[x,y] T (0,0)) :=
 ⟨_,rfl,aC.alloc _ _,by simp,ic _ _ _⟩
theorem dp {w:World} {B:Nat} {x y:Value} {T:TypeId} (h:w.heap[B]?=some (.cells #[x,y] T (0,0))):w.cell? ⟨B,0,none⟩=some x/\w.cell? ⟨B,1,none⟩=some y/\(∀ i,w.frozen? ⟨B,i,none⟩=false) :=
 ⟨aN h 0,aN h 1,cD h⟩
theorem ks {w:World} {B:Nat} {x y a b:Value} {T:TypeId} (h:w.heap[B]?=some (.cells #[x,y] T (0,0))):((w.setCell ⟨B,0,none⟩ a).setCell ⟨B,1,none⟩ b).heap[B]?=some (.cells #[a,b] T (0,0)):=by
 have h1:=fA h 0 a;have h2:=fA h1 1 b;simpa using h2
theorem C6_ (q:Rat) (w:World) (h:RS 28000 q) :
  oW 162 #[bW q] w (bW (-q)):=by
 have HN:Hid (∀ W,oW 29 #[.string (aD q.num)] W (.string (aD (-q).num))):=fun W=>by
  have:=mD q.num W (by have:=h.1;omega);rw [Rat.neg_num];exact this
 have hd:(-q).den=q.den:=rfl;unfold bW;rw [hd];obtain ⟨n,hn⟩:∃ n,n=aD q.num:=⟨_,rfl⟩;obtain ⟨d,yE⟩:∃ d,d=aE q.den:=⟨_,rfl⟩;obtain ⟨m,hm⟩:∃ m,m=aD (-q).num:=⟨_,rfl⟩;rw [<- hn,<- hm] at HN;rw [<- hn,<- yE,<- hm];clear hn yE hm hd h;obtain ⟨W1,rU,hE1,hs1,hb1⟩:=dr w (.string n) (.string d) 152;obtain ⟨W2,vO,oY,hs2,hb2⟩:=dr W1 (.string ⟨#[]⟩) (.string ⟨#[]⟩) 152;have hb1':=aO hb1 oY;obtain ⟨c0,c1,-⟩:=dp hb1';obtain ⟨r0,r1,rf⟩:=dp hb2;have HB2:=n8 hb2;have HE:=n8 (hE1.trans oY);have HS1:=n8 hs1;have HC:Hid (∀ W,aC W2.drew W->W.cell? ⟨w.heap.size,0,none⟩=some (.string n)/\W.cell? ⟨w.heap.size,1,none⟩=some (.string d)/\W.cell? ⟨W1.heap.size,0,none⟩=some (.string ⟨#[]⟩)/\W.cell? ⟨W1.heap.size,1,none⟩=some (.string ⟨#[]⟩)/\(∀ i,W.frozen? ⟨W1.heap.size,i,none⟩=false)):=fun W hW =>
  ⟨hW.cell (by simpa using c0),hW.cell (by simpa using c1),hW.cell (by simpa using r0),hW.cell (by simpa using r1),(dp (aO (w:=W2.drew) hb2 hW)).2.2⟩
 clear hE1 oY hb1 hb2 hb1' hs1 hs2
 go_enter func162,ntmps162
 go_wp2_with fail
 go_region_with (go_at_call 29;refine (HN _).mono ?_;rintro e w5 ⟨rfl,ou⟩;obtain ⟨d0,d1,t0,t1,tf⟩:=HC _ ou;have tf0:=tf 0;have tf1:=tf 1;have HE5:=n8 ou;clear ou tf)
 all_goals
  have hb5:=ks (a:=.string m) (b:=.string d) (aO (w:=W2.drew) HB2 HE5);go_wp2_with fail;refine bodyPost_ret (results_cell_row (by rfl) _ _ W1.heap.size 152 #[.string m,.string d] (0,0) _ (by rfl) hb5 underlying152 (by rfl) (by kernel_rfl)) (by rfl) ⟨rfl,?_⟩;exact Below.setCell (Below.setCell ((HE.trans (aC.drew _)).trans HE5) (p:=⟨W1.heap.size,0,none⟩) (by have:=HS1.out;show w.heap.size<=W1.heap.size;omega) _) (p:=⟨W1.heap.size,1,none⟩) (by have:=HS1.out;show w.heap.size<=W1.heap.size;omega) _
theorem Z1o (N:Int) (g:Nat):(aD (N / (g:Int))).size<=(aD N).size:=by
 by_cases h:N<0
 ·have h1:=eK (N / (g:Int));have h2:=jq N h;have h3:(N / (g:Int)).natAbs<=N.natAbs:=Int.natAbs_ediv_le_natAbs N (g:Int);have:=gY h3;omega
 ·have h0:0<=N / (g:Int):=Int.ediv_nonneg (by omega) (by omega);rw [dC _ h0,dC N (by omega)];refine gY ?_;have h3:(N / (g:Int)).natAbs<=N.natAbs:=Int.natAbs_ediv_le_natAbs N (g:Int);omega
theorem P1_ (n d:Int) (w:World) (hd:d≠0) (hn:(aD n).size<=27000) (Nx:(aD d).size<=27000) (ht:af w) :
  oW 200 #[.string (aD n),.string (aD d)] w (bW (Rat.divInt n d)):=by
 have HT:=n8 ht;clear ht;obtain ⟨W1,rU,hE1,hs1,hb1⟩:=dr w (.string ⟨#[]⟩) (.string ⟨#[]⟩) 152;obtain ⟨r0,r1,rf⟩:=dp hb1;have HB1:=n8 hb1;have HE:=n8 hE1;have HC:Hid (∀ W,aC W1 W->W.cell? ⟨w.heap.size,0,none⟩=some (.string ⟨#[]⟩)/\W.cell? ⟨w.heap.size,1,none⟩=some (.string ⟨#[]⟩)/\(∀ i,W.frozen? ⟨w.heap.size,i,none⟩=false)):=fun W hW =>
  ⟨hW.cell r0,hW.cell r1,(dp (aO hb1 hW)).2.2⟩
 have HSG:=n8 (ns d W1);obtain ⟨N,D,hN,hD,MV,Nc,Nd,hq⟩:∃ (N:Int) (D:Nat),(if d<0 then N=-n else N=n)/\(if d<0 then d=-(D:Int) else d=(D:Int))/\D≠0/\(aD N).size<=27001/\(aE D).size<=27001/\Rat.divInt n d=mkRat N D:=by
  have h1:=eK (-n);have h2:=d_ n;have h3:=d_ d;rw [Int.natAbs_neg] at h1;by_cases h:d<0
  ·refine ⟨-n,d.natAbs,by rw [if_pos h],by rw [if_pos h];omega,by omega,by omega,by omega,?_⟩;rw [<- E4_ n d.natAbs (by omega)];congr 1;omega
  ·refine ⟨n,d.natAbs,by rw [if_neg h],by rw [if_neg h];omega,by omega,by omega,by omega,?_⟩;rw [<- E5_ n d.natAbs];congr 1;omega
 obtain ⟨hp1,hp2⟩:=X2_ N D MV;rw [hq];unfold bW;rw [hp1,hp2];obtain ⟨g,hg⟩:∃ g,g=N.natAbs.gcd D:=⟨_,rfl⟩;rw [<- hg];have JC:0<g:=by rw [hg];exact Nat.gcd_pos_of_pos_right _ (by omega)
 have JG:g<=D:=by rw [hg];exact Nat.gcd_le_right _ (by omega)
 have hgs:=gY JG;have Gy:∀ W,aC w W->Calls prog 134 #[.string (aD N),.string (aD (D:Int))] W fun e w'=>e=.returned (.string (aE g))/\aC W w':=fun W hW=>by
  have:=f5_ N (D:Int) W (by omega) (by rw [eb];omega) (HT.ext hW);rw [show (D:Int).natAbs=D from rfl,<- hg] at this;exact this
 have G4:∀ W,aC w W->Calls prog 94 #[.string (aD N),.string (aD (g:Int))] W fun e w'=>e=.returned (.tuple #[.string (aD (aR N (g:Int))),.string (aD (bF N (g:Int))),.int .i64 0])/\aC W w':=fun W hW=>U4_ N (g:Int) W (by omega) (by rw [eb];omega) (by omega) (HT.ext hW);have G3:∀ W,aC w W->Calls prog 94 #[.string (aD (D:Int)),.string (aD (g:Int))] W fun e w'=>e=.returned (.tuple #[.string (aD (aR (D:Int) (g:Int))),.string (aD (bF (D:Int) (g:Int))),.int .i64 0])/\aC W w':=fun W hW=>U4_ (D:Int) (g:Int) W (by rw [eb];omega) (by rw [eb];omega) (by omega) (HT.ext hW);have C2:(0:Int)<(g:Int):=by omega
 have Jt:aR (D:Int) (g:Int)=((D / g:Nat):Int):=by rw [Z1v _ _ C2];exact (Int.natCast_ediv _ _).symm
 rw [Z1v N _ C2,eb] at G4;rw [Jt,eb,eb,eb] at G3;rw [eb] at Gy;have HGC:=n8 Gy;have HD1:=n8 G4;have HD2:=n8 G3;have HG1:Hid (g=1->N / (g:Int)=N/\D / g=D):=fun h=>by rw [h];exact ⟨Int.ediv_one N,Nat.div_one D⟩
 have hz:=k6_ g;obtain ⟨FN,An⟩:∃ FN,FN=N / (g:Int):=⟨_,rfl⟩;obtain ⟨FD,Ao⟩:∃ FD,FD=D / g:=⟨_,rfl⟩;rw [<- An] at HD1 HG1 |-;rw [<- Ao] at HD2 HG1 |-;clear hg JC JG hgs Gy G4 G3 C2 Jt hp1 hp2 hq r0 r1 rf hb1 hE1 hs1 An Ao;have HX:Hid (w.heap.size<=w.heap.size):=oJ _;by_cases hneg:d<0
 case' pos =>
  rw [if_pos hneg] at hN hD;have vE:d.sign<0:=by rw [Int.sign_eq_neg_one_of_neg hneg];omega
  have HN1:Hid (∀ W,oW 29 #[.string (aD n)] W (.string (aD N))):=fun W=>by rw [hN];exact mD n W (by omega)
  have HN2:Hid (∀ W,oW 29 #[.string (aD d)] W (.string (aE D))):=fun W=>by
   have:=mD d W (by omega);rw [show -d=(D:Int) by omega,eb] at this;exact this
  obtain ⟨sg,se⟩:∃ sg,sg=d.sign:=⟨_,rfl⟩;rw [<- se] at HSG vE;clear hN hD hneg se
  go_enter func200,ntmps200
  go_wp2_with fail;refine HSG.mono ?_;rintro e w' ⟨rfl,rfl⟩;clear HSG;go_wp2_with fail;refine (HN1 _).mono ?_;rintro e w2 ⟨rfl,oY⟩;have HE2:=n8 oY;clear oY HN1;go_wp2_with fail;refine (HN2 _).mono ?_;rintro e w3 ⟨rfl,oh⟩;have HE3:=n8 (aC.trans HE2 oh);clear oh HN2
 case' neg =>
  rw [if_neg hneg] at hN hD;have vE:¬ d.sign<0:=by rw [Int.sign_eq_one_of_pos (by omega)];omega
  obtain ⟨sg,se⟩:∃ sg,sg=d.sign:=⟨_,rfl⟩;rw [<- se] at HSG vE;rw [hD,eb] at HSG |-;rw [<- hN];clear hN hD hneg se
  go_enter func200,ntmps200
  go_wp2_with fail;refine HSG.mono ?_;rintro e w' ⟨rfl,rfl⟩;clear HSG;have HE3:=n8 (aC.refl W1)
 all_goals
  by_cases hg1:g=1
  ·rw [oS hg1] at hz;have HQ:=n8 (HG1 hg1);clear hg1;go_wp2_with fail;refine (HGC _ (HE.trans HE3)).mono ?_;rintro e w4 ⟨rfl,hE4⟩;have HE4:=n8 (aC.trans HE3 hE4);obtain ⟨t0,t1,tf⟩:=HC _ HE4;have tf0:=tf 0;have tf1:=tf 1;have hb5:=ks (a:=.string (aD N)) (b:=.string (aE D)) (aO HB1 HE4);clear hE4 tf HGC;go_wp2_with fail;refine bodyPost_ret (results_cell_row (by rfl) _ _ w.heap.size 152 #[.string (aD N),.string (aE D)] (0,0) _ (by rfl) hb5 underlying152 (by rfl) (by kernel_rfl)) (by rfl) ⟨by rw [HQ.out.1,HQ.out.2],?_⟩;exact Below.setCell (Below.setCell (HE.trans HE4) (p:=⟨w.heap.size,0,none⟩) (oJ _) _) (p:=⟨w.heap.size,1,none⟩) (oJ _) _
  ·rw [oR hg1] at hz;clear hg1;go_wp2_with fail;refine (HGC _ (HE.trans HE3)).mono ?_;rintro e w4 ⟨rfl,hE4⟩;have HE4:=n8 (aC.trans HE3 hE4);clear hE4 HGC;go_wp2_with fail;refine (HD1 _ (HE.trans HE4)).mono ?_;rintro e w5 ⟨rfl,ou⟩;have HE5:=n8 (aC.trans HE4 ou);clear ou HD1;go_wp2_with fail;refine (HD2 _ (HE.trans HE5)).mono ?_;rintro e w6 ⟨rfl,og⟩;have HE6:=n8 (aC.trans HE5 og);obtain ⟨t0,t1,tf⟩:=HC _ HE6;have tf0:=tf 0;have tf1:=tf 1;have hb5:=ks (a:=.string (aD FN)) (b:=.string (aE FD)) (aO HB1 HE6);clear og tf HD2;go_wp2_with fail;refine bodyPost_ret (results_cell_row (by rfl) _ _ w.heap.size 152 #[.string (aD FN),.string (aE FD)] (0,0) _ (by rfl) hb5 underlying152 (by rfl) (by kernel_rfl)) (by rfl) ⟨rfl,?_⟩;exact Below.setCell (Below.setCell (HE.trans HE6) (p:=⟨w.heap.size,0,none⟩) (oJ _) _) (p:=⟨w.heap.size,1,none⟩) (oJ _) _
theorem jo {n:Int} (h:(aD n).size<=9):-1000000000<n/\n<1000000000:=by
 have h1:=d_ n;have h3:=Lib.lt_pow_nDigits n.natAbs;rw [dz] at h1;have h4:10^Lib.nDigits n.natAbs<=10^9:=Nat.pow_le_pow_right (by omega) (by omega);rw [show (10:Nat)^9=1000000000 by decide] at h4;omega
theorem J1_ (n:Int) (w:World) (hs:(aD n).size<=9) :
  oW 217 #[.string (aD n)] w (.tuple #[.int .i64 n,.bool true]):=by
 have hb:=jo hs;have tR:¬ (9:Int)<((aD n).size:Int):=by omega
 have HA:=n8 (h8_ n w (by omega) (by omega) (by omega))
 go_enter func217,ntmps217
 go_wp2_with fail;refine HA.mono ?_;rintro e w1 ⟨rfl,hE1⟩;have HE1:=n8 hE1;clear hE1 HA;go_wp2_with fail
 go_quiet (fail)
 go_wp2_with fail;go_ret2;exact ⟨rfl,aC.draws HE1 _⟩
theorem D1_ (n:Int) (w:World) (hs:9<(aD n).size) :
  oW 217 #[.string (aD n)] w (.tuple #[.int .i64 0,.bool false]):=by
 have tR:(9:Int)<((aD n).size:Int):=by omega
 go_enter func217,ntmps217
 go_wp2_with fail;go_ret2;exact ⟨rfl,aC.refl _⟩
theorem S0_ (q:Rat) (w:World) :
  Calls prog 198 #[bW q] w fun e w'=>∃ a b,e=.returned (.tuple #[.int .i64 a,.int .i64 b,.bool (decide ((aD q.num).size<=9) && decide ((aE q.den).size<=9))])/\Hid ((aD q.num).size<=9/\(aE q.den).size<=9->a=q.num/\b=q.den)/\aC w w':=by
 have hL1:∀ W,∃ a,Calls prog 217 #[.string (aD q.num)] W fun e w'=>e=.returned (.tuple #[.int .i64 a,.bool (decide ((aD q.num).size<=9))])/\(aC W w'/\((aD q.num).size<=9->a=q.num)):=by
  intro W;by_cases h:(aD q.num).size<=9
  ·refine ⟨q.num,(J1_ q.num W h).mono fun e w' ⟨h1,h2⟩=>⟨?_,h2,fun _=>rfl⟩⟩;rw [h1,oS h]
  ·refine ⟨0,(D1_ q.num W (by omega)).mono fun e w' ⟨h1,h2⟩=>⟨?_,h2,fun h'=>absurd h' h⟩⟩;rw [h1,oR h]
 have hL2:∀ W,∃ a,Calls prog 217 #[.string (aE q.den)] W fun e w'=>e=.returned (.tuple #[.int .i64 a,.bool (decide ((aE q.den).size<=9))])/\(aC W w'/\((aE q.den).size<=9->a=q.den)):=by
  intro W;rw [<- eb];by_cases h:(aD (q.den:Int)).size<=9
  ·refine ⟨q.den,(J1_ q.den W h).mono fun e w' ⟨h1,h2⟩=>⟨?_,h2,fun _=>rfl⟩⟩;rw [h1,oS h]
  ·refine ⟨0,(D1_ q.den W (by omega)).mono fun e w' ⟨h1,h2⟩=>⟨?_,h2,fun h'=>absurd h' h⟩⟩;rw [h1,oR h]
 unfold bW;obtain ⟨n,hn⟩:∃ n,n=aD q.num:=⟨_,rfl⟩;obtain ⟨d,yE⟩:∃ d,d=aE q.den:=⟨_,rfl⟩;rw [<- hn] at hL1;rw [<- yE] at hL2;rw [<- hn,<- yE];obtain ⟨b1,hb1⟩:∃ b,b=decide (n.size<=9):=⟨_,rfl⟩;obtain ⟨b2,hb2⟩:∃ b,b=decide (d.size<=9):=⟨_,rfl⟩;rw [<- hb1] at hL1 |-;rw [<- hb2] at hL2 |-;have HL1:=n8 hL1;have HL2:=n8 hL2;clear hn yE hL1 hL2 hb1 hb2;obtain ⟨W1,rU,hE1,hs1,hbb⟩:=dr w (.string n) (.string d) 152;obtain ⟨c0,c1,-⟩:=dp hbb;have HE1:=n8 hE1;have HC:Hid (∀ W,aC W1 W->W.cell? ⟨w.heap.size,0,none⟩=some (.string n)/\W.cell? ⟨w.heap.size,1,none⟩=some (.string d)):=fun W hW=>⟨hW.cell c0,hW.cell c1⟩
 clear hE1 hs1 hbb
 go_enter func198,ntmps198
 go_wp2_with fail;obtain ⟨a,hA⟩:=HL1 W1;refine hA.mono ?_;rintro e w2 ⟨rfl,hx⟩;have HX2:=n8 hx;obtain ⟨d0,d1⟩:=HC _ hx.1;clear hA hx c0 c1;go_wp2_with fail;obtain ⟨b,hB⟩:=HL2 w2;refine hB.mono ?_;rintro e w3 ⟨rfl,hx⟩;have HX3:=n8 hx;clear hB hx d0 d1;cases b1 <;> cases b2
 all_goals
  go_wp2_with fail;go_ret3;exact ⟨a,b,rfl,fun h=>⟨HX2.2 h.1,HX3.2 h.2⟩,(HE1.trans HX2.1).trans HX3.1⟩
theorem I1_ (a b:Int):Nat.gcd b.natAbs (a.tmod b).natAbs=Nat.gcd a.natAbs b.natAbs:=by
 rw [Int.natAbs_tmod,Nat.gcd_comm b.natAbs,<- Nat.gcd_rec,Nat.gcd_comm]
theorem Z4F (n:Int) (g:Nat) (h:(g:Int) ∣ n):n.tdiv (g:Int)=n / (g:Int):=by
 obtain ⟨k,rfl⟩:=h;by_cases hg:g=0
 ·subst hg;simp
 ·rw [Int.mul_tdiv_cancel_left _ (by omega),Int.mul_ediv_cancel_left _ (by omega)]
theorem Z1y (n:Int) (d:Nat) (w:World) (qB:-4000000000000000000<=n) (qO:n<=4000000000000000000) (hd0:0<d) (hd:d<=4000000000000000000) (ht:af w) :
  oW 199 #[.int .i64 n,.int .i64 d] w (bW (mkRat n d)):=by
 have HT:=n8 ht;clear ht;obtain ⟨hp1,hp2⟩:=X2_ n d (by omega);unfold bW;rw [hp1,hp2];obtain ⟨g,hg⟩:∃ g,g=n.natAbs.gcd d:=⟨_,rfl⟩;rw [<- hg];have JC:0<g:=by rw [hg];exact Nat.gcd_pos_of_pos_right _ hd0
 have pf:g<=d:=by rw [hg];exact Nat.gcd_le_right _ hd0
 have pI:(g:Int) ∣ n:=by rw [hg];exact Int.ofNat_dvd_left.2 (Nat.gcd_dvd_left _ _)
 obtain ⟨FN,An⟩:∃ FN,FN=n / (g:Int):=⟨_,rfl⟩;obtain ⟨FD,Ao⟩:∃ FD,FD=d / g:=⟨_,rfl⟩;rw [<- An,<- Ao];have q1:n.tdiv (g:Int)=FN:=by rw [An,Z4F n g pI]
 have q2:(d:Int) / (g:Int)=(FD:Int):=by rw [Ao];exact (Int.natCast_ediv _ _).symm
 have IX:(d:Int).tdiv (g:Int)=(FD:Int):=by rw [Int.tdiv_eq_ediv_of_nonneg (by omega),q2]
 have G0:-4000000000000000000<=FN/\FN<=4000000000000000000:=by
  have:FN.natAbs<=n.natAbs:=by rw [An];exact Int.natAbs_ediv_le_natAbs n (g:Int)
  omega
 have MU:FD<=4000000000000000000:=by
  have:FD<=d:=by rw [Ao];exact Nat.div_le_self _ _
  omega
 obtain ⟨Bh,Bg⟩:=G0;have e1:IntKind.i64.wrap FN=FN:=IntWalk.i64_in _ (by omega);have e2:IntKind.i64.wrap (FD:Int)=(FD:Int):=IntWalk.i64_in _ (by omega);have Bw:∀ W,aC w W->Calls prog 124 #[.int .i64 FN] W fun e w'=>e=.returned (.string (aD FN))/\aC W w':=fun W hE=>l9 FN W (by omega) (by omega) (HT.ext hE);have Gx:∀ W,aC w W->Calls prog 124 #[.int .i64 (FD:Int)] W fun e w'=>e=.returned (.string (aD (FD:Int)))/\aC W w':=fun W hE=>l9 (FD:Int) W (by omega) (by omega) (HT.ext hE);rw [eb] at Gx;have HI1:=n8 Bw;have HI2:=n8 Gx;have HG:=n8 hg;obtain ⟨W1,rU,hE1,hs1,hb1⟩:=dr w (.string ⟨#[]⟩) (.string ⟨#[]⟩) 152;obtain ⟨r0,r1,rf⟩:=dp hb1;have HB1:=n8 hb1;have HE:=n8 hE1;have HC:Hid (∀ W,aC W1 W->W.cell? ⟨w.heap.size,0,none⟩=some (.string ⟨#[]⟩)/\W.cell? ⟨w.heap.size,1,none⟩=some (.string ⟨#[]⟩)/\(∀ i,W.frozen? ⟨w.heap.size,i,none⟩=false)):=fun W hW =>
  ⟨hW.cell r0,hW.cell r1,(dp (aO hb1 hW)).2.2⟩
 have HQ:Hid (n.tdiv (g:Int)=FN/\(d:Int) / (g:Int)=(FD:Int)/\(d:Int).tdiv (g:Int)=(FD:Int)/\IntKind.i64.wrap FN=FN/\IntKind.i64.wrap (FD:Int)=(FD:Int)):=⟨q1,q2,IX,e1,e2⟩;clear hp1 hp2 hg pI Bw Gx An Ao q1 q2 IX e1 e2 hE1 hs1 hb1 r0 r1 rf
 go_enter func199,ntmps199
 go_wp2_with fail
 go_loopw [5,6] (fun a b wr=>∃ x y:Int,a=.int .i64 x/\b=.int .i64 y/\-4000000000000000000<=x/\x<=4000000000000000000/\-4000000000000000000<=y/\y<=4000000000000000000/\Hid (Nat.gcd x.natAbs y.natAbs=g)/\Hid (aC W1 wr)) (fun _ b _=>(intOf b).natAbs)
 case atStart=>exact ⟨n,d,rfl,rfl,qB,qO,by omega,by omega,by rw [HG.out];rfl,aC.refl _⟩
 case round =>
  obtain ⟨x,y,rfl,rfl,pq,rQ,rm,qg,CH,KV⟩:=hrel;obtain ⟨wo,rfl⟩:∃ wo:World,wo=wr:=⟨_,rfl⟩;by_cases pR:y=0
  ·have Lk:x.natAbs=g:=by have:=CH.out;rw [pR] at this;simpa using this
   subst pR;have Ky:(x<0/\x=-(g:Int))\/(¬ x<0/\x=(g:Int)):=by omega
   have JA:((g:Int) == 0)=false:=by rw [beq_eq_false_iff_ne];omega
   have C1:¬ (g:Int)=0:=by omega
   clear Lk;obtain ⟨q1,q2,q3,q4,q5⟩:=HQ.out;have HEd:=n8 (aC.trans KV (aC.drew wo));rcases Ky with ⟨hneg,E4⟩ | ⟨hneg,E4⟩
   case' inl =>
    have LQ:-x=(g:Int):=by omega
    clear E4
   case' inr =>
    subst E4;have LQ:True:=trivial
   all_goals
    go_wp2_with fail
    go_region_with (first
     | (go_at_call 124;with_reducible refine (HI1.out _ (HE.out.trans HEd.out)).mono ?_;rintro e w5 ⟨rfl,ou⟩;have HE2:=HEd;clear HEd;have HEd:=n8 (aC.trans HE2.out ou);obtain ⟨t0,t1,tf⟩:=HC.out _ HEd.out;have tf0:=tf 0;have tf1:=tf 1;clear ou HE2 tf)
     | (go_at_call 124;with_reducible refine (HI2.out _ (HE.out.trans HEd.out)).mono ?_;rintro e w5 ⟨rfl,ou⟩;have HE2:=HEd;clear HEd;have HEd:=n8 (aC.trans HE2.out ou);obtain ⟨t0,t1,tf⟩:=HC.out _ HEd.out;have tf0:=tf 0;have tf1:=tf 1;clear ou HE2 tf))
    all_goals
     have hb5:=ks (a:=.string (aD FN)) (b:=.string (aE FD)) (aO HB1 HEd);go_wp2_with fail;refine bodyPost_ret (results_cell_row (by rfl) _ _ w.heap.size 152 #[.string (aD FN),.string (aE FD)] (0,0) _ (by rfl) hb5 underlying152 (by rfl) (by kernel_rfl)) (by rfl) ⟨rfl,?_⟩;exact Below.setCell (Below.setCell (HE.trans HEd) (p:=⟨w.heap.size,0,none⟩) (oJ _) _) (p:=⟨w.heap.size,1,none⟩) (oJ _) _
  ·obtain ⟨r,hr⟩:∃ r,r=x.tmod y:=⟨_,rfl⟩;have Cd:r.natAbs<y.natAbs:=by rw [hr];exact mT x y pR
   have HG2:Hid (Nat.gcd y.natAbs r.natAbs=g):=by unfold Hid;rw [hr,I1_];exact CH
   have qD:x.tmod y=r:=hr.symm;have Kr:(y == 0)=false:=by rw [beq_eq_false_iff_ne];exact pR
   have E2:(y != 0)=true:=by simpa using pR
   clear hr;go_wp2_with fail
   go_quiet (fail)
   go_wp2_with fail;go_roundw
   case rel=>exact ⟨y,r,rfl,rfl,rm,qg,by omega,by omega,HG2,aC.draws KV _⟩
   case measure=>simp [intOf];omega
theorem im (x y:Int):(aD (x*y)).size<=(aD x).size+(aD y).size+1:=by
 have h1:=eK (x*y);have h2:=d_ x;have h3:=d_ y;have h4:=nS x.natAbs y.natAbs;rw [<- Int.natAbs_mul] at h4;omega
theorem r0_ (x y:Int):(aD (x+y)).size<=max (aD x).size (aD y).size+2:=by
 have h1:=eK (x+y);have h2:=d_ x;have h3:=d_ y;have h4:=Z9_ x.natAbs y.natAbs;have h5:=gY (Int.natAbs_add_le x y);omega
def ah (B:Nat) (w:World):Prop:=∃ a b,w.heap[B]?=some (.cells #[a,b] 152 (0,0))
theorem ah.ext {B:Nat} {w w':World} (h:ah B w) (he:aC w w'):ah B w':=by
 obtain ⟨a,b,h⟩:=h;exact ⟨a,b,aO h he⟩
theorem ah.set2 {B:Nat} {w:World} {x y:Value} (h:ah B w):ah B ((w.setCell ⟨B,0,none⟩ x).setCell ⟨B,1,none⟩ y):=by
 obtain ⟨a,b,h⟩:=h;exact ⟨x,y,ks h⟩
theorem ah.res {B:Nat} {w:World} {x y:Value} (h:ah B w):((w.setCell ⟨B,0,none⟩ x).setCell ⟨B,1,none⟩ y).heap[B]?=some (.cells #[x,y] 152 (0,0)):=by
 obtain ⟨a,b,h⟩:=h;exact ks h
theorem ah.open {B:Nat} {w:World} (h:ah B w):∃ a b,w.cell? ⟨B,0,none⟩=some a/\w.cell? ⟨B,1,none⟩=some b/\w.frozen? ⟨B,0,none⟩=false/\w.frozen? ⟨B,1,none⟩=false:=by
 obtain ⟨a,b,h⟩:=h;obtain ⟨c0,c1,cf⟩:=dp h;exact ⟨a,b,c0,c1,cf 0,cf 1⟩
theorem du {w:World} {B g i:Nat} {x y v:Value} (hne:g≠B) (h:w.cell? ⟨g,i,none⟩=some v):((w.setCell ⟨B,0,none⟩ x).setCell ⟨B,1,none⟩ y).cell? ⟨g,i,none⟩=some v:=by
 rw [World.cell?_setCell_other _ _ _ _ (by intro e;simp only [Addr.mk.injEq] at e;exact hne e.1.symm),World.cell?_setCell_other _ _ _ _ (by intro e;simp only [Addr.mk.injEq] at e;exact hne e.1.symm)];exact h
theorem eH {w W:World} {B:Nat} {x y:Value} (h:aC w W) (hB:w.heap.size<=B):aC w ((W.setCell ⟨B,0,none⟩ x).setCell ⟨B,1,none⟩ y) :=
 Below.setCell (Below.setCell h (p:=⟨B,0,none⟩) hB _) (p:=⟨B,1,none⟩) hB _
theorem Z0D (x y:Rat):Rat.divInt (x.num*y.num) ((x.den:Int)*(y.den:Int))=x*y:=by
 rw [Rat.mul_def',<- Int.natCast_mul];rfl
theorem Z0C (x y:Rat):Rat.divInt (x.num*(y.den:Int)) ((x.den:Int)*y.num)=x / y:=by
 rw [Rat.div_def,Rat.inv_def,<- Rat.divInt_mul_divInt,Rat.num_divInt_den]
theorem C5_ (x y:Rat) (w:World) (hx:RS 13000 x) (hy:RS 13000 y) (ht:af w) :
  oW 163 #[bW x,bW y] w (bW (x*y)):=by
 have HT:=n8 ht;clear ht;obtain ⟨W1,rU,hE1,hs1,hb1⟩:=dr w (.string (aD x.num)) (.string (aE x.den)) 152;obtain ⟨W2,vO,oY,hs2,hb2⟩:=dr W1 (.string (aD y.num)) (.string (aE y.den)) 152;obtain ⟨W3,xU,oh,hs3,hb3⟩:=dr W2 (.string ⟨#[]⟩) (.string ⟨#[]⟩) 152;have hb1':=aO hb1 (oY.trans oh);have hb2':=aO hb2 oh;have HE:=n8 ((hE1.trans oY).trans oh);have HR:Hid (w.heap.size<=W2.heap.size):=by unfold Hid;omega
 have HN1:Hid (w.heap.size≠W2.heap.size):=by unfold Hid;omega
 have HN2:Hid (W1.heap.size≠W2.heap.size):=by unfold Hid;omega
 have HC:Hid (∀ W,aC W3 W->W.cell? ⟨w.heap.size,0,none⟩=some (.string (aD x.num))/\W.cell? ⟨w.heap.size,1,none⟩=some (.string (aE x.den))/\W.cell? ⟨W1.heap.size,0,none⟩=some (.string (aD y.num))/\W.cell? ⟨W1.heap.size,1,none⟩=some (.string (aE y.den))/\W.cell? ⟨W2.heap.size,0,none⟩=some (.string ⟨#[]⟩)/\W.cell? ⟨W2.heap.size,1,none⟩=some (.string ⟨#[]⟩)/\W.frozen? ⟨W2.heap.size,0,none⟩=false/\W.frozen? ⟨W2.heap.size,1,none⟩=false/\W.heap[W2.heap.size]?=some (.cells #[.string ⟨#[]⟩,.string ⟨#[]⟩] 152 (0,0))):=fun W hW=>by
  obtain ⟨a0,a1,-⟩:=dp (aO hb1' hW);obtain ⟨b0,b1,-⟩:=dp (aO hb2' hW);obtain ⟨c0,c1,cf⟩:=dp (aO hb3 hW);exact ⟨a0,a1,b0,b1,c0,c1,cf 0,cf 1,aO hb3 hW⟩
 have HB1:Hid (∀ W,Calls prog 198 #[bW x] W fun e w'=>∃ a b,e=.returned (.tuple #[.int .i64 a,.int .i64 b,.bool (decide ((aD x.num).size<=9) && decide ((aE x.den).size<=9))])/\Hid ((aD x.num).size<=9/\(aE x.den).size<=9->a=x.num/\b=x.den)/\aC W w'):=fun W=>S0_ x W;have HB2:Hid (∀ W,Calls prog 198 #[bW y] W fun e w'=>∃ a b,e=.returned (.tuple #[.int .i64 a,.int .i64 b,.bool (decide ((aD y.num).size<=9) && decide ((aE y.den).size<=9))])/\Hid ((aD y.num).size<=9/\(aE y.den).size<=9->a=y.num/\b=y.den)/\aC W w'):=fun W=>S0_ y W;obtain ⟨bx,hbx⟩:∃ b,b=(decide ((aD x.num).size<=9) && decide ((aE x.den).size<=9)):=⟨_,rfl⟩;obtain ⟨by',hby⟩:∃ b,b=(decide ((aD y.num).size<=9) && decide ((aE y.den).size<=9)):=⟨_,rfl⟩;rw [<- hbx] at HB1;rw [<- hby] at HB2;have vT:Hid (bx=true->(aD x.num).size<=9/\(aE x.den).size<=9):=by
  intro h;rw [hbx,Bool.and_eq_true,decide_eq_true_iff,decide_eq_true_iff] at h;exact h
 have zp:Hid (by'=true->(aD y.num).size<=9/\(aE y.den).size<=9):=by
  intro h;rw [hby,Bool.and_eq_true,decide_eq_true_iff,decide_eq_true_iff] at h;exact h
 have tl:∀ W,aC w W->Calls prog 63 #[.string (aD x.num),.string (aD y.num)] W fun e w'=>e=.returned (.string (aD (x.num*y.num)))/\aC W w':=fun W hW=>ju _ _ W (by have:=hx.1;omega) (by have:=hy.1;omega) (HT.ext hW);have rO:∀ W,aC w W->Calls prog 63 #[.string (aE x.den),.string (aE y.den)] W fun e w'=>e=.returned (.string (aD ((x.den:Int)*(y.den:Int))))/\aC W w':=fun W hW=>by
  have:=ju (x.den:Int) (y.den:Int) W (by rw [eb];have:=hx.2;omega) (by rw [eb];have:=hy.2;omega) (HT.ext hW);rw [eb,eb] at this;exact this
 have hL:∀ W,aC w W->Calls prog 200 #[.string (aD (x.num*y.num)),.string (aD ((x.den:Int)*(y.den:Int)))] W fun e w'=>e=.returned (bW (x*y))/\aC W w':=fun W hW=>by
  rw [<- Z0D];have h1:=im x.num y.num;have h2:=im (x.den:Int) (y.den:Int);rw [eb x.den,eb y.den] at h2;have h3:=hx.1;have h4:=hx.2;have h5:=hy.1;have h6:=hy.2;exact P1_ _ _ W (by rw [<- Int.natCast_mul];have:=Nat.mul_ne_zero x.den_nz y.den_nz;omega) (by omega) (by omega) (HT.ext hW)
 have HM1:=n8 tl;have HM2:=n8 rO;have HL:=n8 hL;have HOF:Hid ((aD x.num).size<=9/\(aE x.den).size<=9->(aD y.num).size<=9/\(aE y.den).size<=9->∃ (p:Int) (q:Int),x.num*y.num=p/\(x.den:Int)*(y.den:Int)=q/\-1000000000000000000<=p/\p<=1000000000000000000/\-1000000000000000000<=q/\q<=1000000000000000000/\∀ W,aC w W->oW 199 #[.int .i64 p,.int .i64 q] W (bW (x*y))):=by
  intro h1 h2;have a1:=jo h1.1;have a2:=jo (n:=(x.den:Int)) (by rw [eb];exact h1.2);have a3:=jo h2.1;have a4:=jo (n:=(y.den:Int)) (by rw [eb];exact h2.2);have m1:=mB a1.1 a1.2 a3.1 a3.2 (by omega) (by omega);have m2:=mB a2.1 a2.2 a4.1 a4.2 (by omega) (by omega);refine ⟨_,_,rfl,rfl,by omega,by omega,by omega,by omega,fun W hW=>?_⟩;have GK:0<x.den*y.den:=Nat.mul_pos x.den_pos y.den_pos;rw [<- Int.natCast_mul] at m2 |-;have:=Z1y (x.num*y.num) (x.den*y.den) W (by omega) (by omega) GK (by omega) (HT.ext hW);rw [Rat.mul_def'];exact this
 have pY:∀ q:Rat,bW q=.agg #[.string (aD q.num),.string (aE q.den)]:=fun _=>rfl;have HV:Hid (∀ q:Rat,bW q=.agg #[.string (aD q.num),.string (aE q.den)]):=pY;obtain ⟨Z,hZ⟩:∃ Z,Z=x*y:=⟨_,rfl⟩;rw [<- hZ] at HL HOF |-;rw [pY x] at HB1 |-;rw [pY y] at HB2 |-;rw [pY Z] at HL HOF |-;clear hE1 oY oh hs1 hs2 hs3 hb1 hb2 hb3 hb1' hb2' hbx hby tl rO hL pY hZ hx hy HV;obtain ⟨n1,qB⟩:∃ n,n=aD x.num:=⟨_,rfl⟩;obtain ⟨d1,qf⟩:∃ n,n=aE x.den:=⟨_,rfl⟩;obtain ⟨n2,qO⟩:∃ n,n=aD y.num:=⟨_,rfl⟩;obtain ⟨d2,hd2⟩:∃ n,n=aE y.den:=⟨_,rfl⟩;obtain ⟨n3,xC⟩:∃ n,n=aD (x.num*y.num):=⟨_,rfl⟩;obtain ⟨d3,wK⟩:∃ n,n=aD ((x.den:Int)*(y.den:Int)):=⟨_,rfl⟩;obtain ⟨n4,tE⟩:∃ n,n=aD Z.num:=⟨_,rfl⟩;obtain ⟨d4,rz⟩:∃ n,n=aE Z.den:=⟨_,rfl⟩;rw [<- qB,<- qO,<- xC] at HM1;rw [<- qf,<- hd2,<- wK] at HM2;rw [<- xC,<- wK,<- tE,<- rz] at HL;rw [<- tE,<- rz] at HOF |-;rw [<- qB,<- qf,<- qO,<- hd2] at HC |-;rw [<- qB,<- qf] at rU;rw [<- qO,<- hd2] at vO;rw [<- qB,<- qf] at HB1 vT HOF;rw [<- qO,<- hd2] at HB2 zp HOF;clear qB qf qO hd2 xC wK tE rz;obtain ⟨c0,c1,c2,c3,c4,c5,c6,c7,-⟩:=HC W3 (aC.refl _)
 go_enter func163,ntmps163
 go_wp2_with fail;refine (HB1 _).mono ?_;rintro e w4 ⟨a,b,rfl,qF,hE4⟩;have HAB:=qF;have HE4:=n8 hE4;obtain ⟨d0,KE,KD,d3,KC,d5,d6,d7,-⟩:=HC _ hE4;clear qF hE4 HB1 c0 c1 c2 c3 c4 c5 c6 c7;cases bx
 ·clear HB2 HOF HAB d0 KE KD d3 KC d5 d6 d7;go_wp2_with fail;have HX3:=n8 (aC.trans (aC.trans HE HE4) (aC.drew _));obtain ⟨y1,y2,y3,y4,-,-,-,-,yb⟩:=HC _ (aC.trans HE4 (aC.drew _));have HB3:Hid (ah W2.heap.size (w4).drew):=⟨_,_,yb⟩;clear yb
  go_region_held3 (fun w'=>w'.cell? ⟨w.heap.size,0,none⟩=some (.string n1)/\w'.cell? ⟨w.heap.size,1,none⟩=some (.string d1)/\w'.cell? ⟨W1.heap.size,0,none⟩=some (.string n2)/\w'.cell? ⟨W1.heap.size,1,none⟩=some (.string d2)/\Hid (aC w w')/\Hid (ah W2.heap.size w'))
   (first | exact ⟨z1,z2,z3,z4,z5,z6⟩ | exact ⟨du HN1 z1,du HN1 z2,du HN2 z3,du HN2 z4,n8 (eH z5.out HR),n8 z6.out.set2⟩ | exact ⟨y1,y2,y3,y4,HX3,HB3⟩ | go_keep)
   (first
    | (go_at_call 63;have hc:=HM1 _ (Hid.out (p:=aC w _) (by assumption));with_reducible refine hc.mono ?_;clear hc;rintro e w6 ⟨rfl,og⟩;have q1:=og.cell (a:=⟨w.heap.size,0,none⟩) (v:=.string n1) (by assumption);have q2:=og.cell (a:=⟨w.heap.size,1,none⟩) (v:=.string d1) (by assumption);have q3:=og.cell (a:=⟨W1.heap.size,0,none⟩) (v:=.string n2) (by assumption);have q4:=og.cell (a:=⟨W1.heap.size,1,none⟩) (v:=.string d2) (by assumption);have q5:=n8 (aC.trans (Hid.out (p:=aC w _) (by assumption)) og);have q6:=n8 (ah.ext (Hid.out (p:=ah W2.heap.size _) (by assumption)) og);(try clear z1 z2 z3 z4 z5 z6 t0 t1 f0 f1);have z1:=q1;have z2:=q2;have z3:=q3;have z4:=q4;have z5:=q5;have z6:=q6;obtain ⟨r0,r1,t0,t1,f0,f1⟩:=z6.out.open;clear og q1 q2 q3 q4 q5 q6)
    | (go_at_call 63;have hc:=HM2 _ (Hid.out (p:=aC w _) (by assumption));with_reducible refine hc.mono ?_;clear hc;rintro e w6 ⟨rfl,og⟩;have q1:=og.cell (a:=⟨w.heap.size,0,none⟩) (v:=.string n1) (by assumption);have q2:=og.cell (a:=⟨w.heap.size,1,none⟩) (v:=.string d1) (by assumption);have q3:=og.cell (a:=⟨W1.heap.size,0,none⟩) (v:=.string n2) (by assumption);have q4:=og.cell (a:=⟨W1.heap.size,1,none⟩) (v:=.string d2) (by assumption);have q5:=n8 (aC.trans (Hid.out (p:=aC w _) (by assumption)) og);have q6:=n8 (ah.ext (Hid.out (p:=ah W2.heap.size _) (by assumption)) og);(try clear z1 z2 z3 z4 z5 z6 t0 t1 f0 f1);have z1:=q1;have z2:=q2;have z3:=q3;have z4:=q4;have z5:=q5;have z6:=q6;obtain ⟨r0,r1,t0,t1,f0,f1⟩:=z6.out.open;clear og q1 q2 q3 q4 q5 q6)
    | (go_at_call 200;have hc:=HL _ (Hid.out (p:=aC w _) (by assumption));with_reducible refine hc.mono ?_;clear hc;rintro e w6 ⟨rfl,og⟩;have q1:=og.cell (a:=⟨w.heap.size,0,none⟩) (v:=.string n1) (by assumption);have q2:=og.cell (a:=⟨w.heap.size,1,none⟩) (v:=.string d1) (by assumption);have q3:=og.cell (a:=⟨W1.heap.size,0,none⟩) (v:=.string n2) (by assumption);have q4:=og.cell (a:=⟨W1.heap.size,1,none⟩) (v:=.string d2) (by assumption);have q5:=n8 (aC.trans (Hid.out (p:=aC w _) (by assumption)) og);have q6:=n8 (ah.ext (Hid.out (p:=ah W2.heap.size _) (by assumption)) og);(try clear z1 z2 z3 z4 z5 z6 t0 t1 f0 f1);have z1:=q1;have z2:=q2;have z3:=q3;have z4:=q4;have z5:=q5;have z6:=q6;obtain ⟨r0,r1,t0,t1,f0,f1⟩:=z6.out.open;clear og q1 q2 q3 q4 q5 q6))
  all_goals
   have hb7:=ah.res (x:=.string n4) (y:=.string d4) z6.out;go_wp2_with fail;refine bodyPost_ret (results_cell_row (by rfl) _ _ W2.heap.size 152 #[.string n4,.string d4] (0,0) _ (by rfl) hb7 underlying152 (by rfl) (by kernel_rfl)) (by rfl) ⟨rfl,?_⟩;exact eH z5.out HR
 ·go_wp2_with fail;refine (HB2 _).mono ?_;rintro e w5 ⟨c,d,rfl,sv,ou⟩;have HCD:=sv;have HE5:=n8 (aC.trans HE4 ou);clear sv ou HB2 d0 KE KD d3 KC d5 d6 d7;cases by'
  ·clear HOF HAB HCD;go_wp2_with fail;have HX3:=n8 (aC.trans (aC.trans HE HE5) (aC.drew _));obtain ⟨y1,y2,y3,y4,-,-,-,-,yb⟩:=HC _ (aC.trans HE5 (aC.drew _));have HB3:Hid (ah W2.heap.size (w5).drew):=⟨_,_,yb⟩;clear yb
   go_region_held3 (fun w'=>w'.cell? ⟨w.heap.size,0,none⟩=some (.string n1)/\w'.cell? ⟨w.heap.size,1,none⟩=some (.string d1)/\w'.cell? ⟨W1.heap.size,0,none⟩=some (.string n2)/\w'.cell? ⟨W1.heap.size,1,none⟩=some (.string d2)/\Hid (aC w w')/\Hid (ah W2.heap.size w'))
    (first | exact ⟨z1,z2,z3,z4,z5,z6⟩ | exact ⟨du HN1 z1,du HN1 z2,du HN2 z3,du HN2 z4,n8 (eH z5.out HR),n8 z6.out.set2⟩ | exact ⟨y1,y2,y3,y4,HX3,HB3⟩ | go_keep)
    (first
     | (go_at_call 63;have hc:=HM1 _ (Hid.out (p:=aC w _) (by assumption));with_reducible refine hc.mono ?_;clear hc;rintro e w6 ⟨rfl,og⟩;have q1:=og.cell (a:=⟨w.heap.size,0,none⟩) (v:=.string n1) (by assumption);have q2:=og.cell (a:=⟨w.heap.size,1,none⟩) (v:=.string d1) (by assumption);have q3:=og.cell (a:=⟨W1.heap.size,0,none⟩) (v:=.string n2) (by assumption);have q4:=og.cell (a:=⟨W1.heap.size,1,none⟩) (v:=.string d2) (by assumption);have q5:=n8 (aC.trans (Hid.out (p:=aC w _) (by assumption)) og);have q6:=n8 (ah.ext (Hid.out (p:=ah W2.heap.size _) (by assumption)) og);(try clear z1 z2 z3 z4 z5 z6 t0 t1 f0 f1);have z1:=q1;have z2:=q2;have z3:=q3;have z4:=q4;have z5:=q5;have z6:=q6;obtain ⟨r0,r1,t0,t1,f0,f1⟩:=z6.out.open;clear og q1 q2 q3 q4 q5 q6)
     | (go_at_call 63;have hc:=HM2 _ (Hid.out (p:=aC w _) (by assumption));with_reducible refine hc.mono ?_;clear hc;rintro e w6 ⟨rfl,og⟩;have q1:=og.cell (a:=⟨w.heap.size,0,none⟩) (v:=.string n1) (by assumption);have q2:=og.cell (a:=⟨w.heap.size,1,none⟩) (v:=.string d1) (by assumption);have q3:=og.cell (a:=⟨W1.heap.size,0,none⟩) (v:=.string n2) (by assumption);have q4:=og.cell (a:=⟨W1.heap.size,1,none⟩) (v:=.string d2) (by assumption);have q5:=n8 (aC.trans (Hid.out (p:=aC w _) (by assumption)) og);have q6:=n8 (ah.ext (Hid.out (p:=ah W2.heap.size _) (by assumption)) og);(try clear z1 z2 z3 z4 z5 z6 t0 t1 f0 f1);have z1:=q1;have z2:=q2;have z3:=q3;have z4:=q4;have z5:=q5;have z6:=q6;obtain ⟨r0,r1,t0,t1,f0,f1⟩:=z6.out.open;clear og q1 q2 q3 q4 q5 q6)
     | (go_at_call 200;have hc:=HL _ (Hid.out (p:=aC w _) (by assumption));with_reducible refine hc.mono ?_;clear hc;rintro e w6 ⟨rfl,og⟩;have q1:=og.cell (a:=⟨w.heap.size,0,none⟩) (v:=.string n1) (by assumption);have q2:=og.cell (a:=⟨w.heap.size,1,none⟩) (v:=.string d1) (by assumption);have q3:=og.cell (a:=⟨W1.heap.size,0,none⟩) (v:=.string n2) (by assumption);have q4:=og.cell (a:=⟨W1.heap.size,1,none⟩) (v:=.string d2) (by assumption);have q5:=n8 (aC.trans (Hid.out (p:=aC w _) (by assumption)) og);have q6:=n8 (ah.ext (Hid.out (p:=ah W2.heap.size _) (by assumption)) og);(try clear z1 z2 z3 z4 z5 z6 t0 t1 f0 f1);have z1:=q1;have z2:=q2;have z3:=q3;have z4:=q4;have z5:=q5;have z6:=q6;obtain ⟨r0,r1,t0,t1,f0,f1⟩:=z6.out.open;clear og q1 q2 q3 q4 q5 q6))
   all_goals
    have hb7:=ah.res (x:=.string n4) (y:=.string d4) z6.out;go_wp2_with fail;refine bodyPost_ret (results_cell_row (by rfl) _ _ W2.heap.size 152 #[.string n4,.string d4] (0,0) _ (by rfl) hb7 underlying152 (by rfl) (by kernel_rfl)) (by rfl) ⟨rfl,?_⟩;exact eH z5.out HR
  ·obtain ⟨ha,hb⟩:=HAB (vT (by first | rfl | trivial));obtain ⟨hc,hd⟩:=HCD (zp (by first | rfl | trivial));obtain ⟨p,q,hp,hq,p1,p2,q1,q2,Cl⟩:=HOF (vT (by first | rfl | trivial)) (zp (by first | rfl | trivial));have HO:=n8 Cl;have rF:a*c=p:=by rw [ha,hc];exact hp
   have LG:b*d=q:=by rw [hb,hd];exact hq
   clear ha hb hc hd hp hq Cl HAB HCD HOF HM1 HM2 HL;go_wp2_with fail;refine (HO _ (HE.trans HE5)).mono ?_;rintro e w6 ⟨rfl,og⟩;have HE6:=n8 (aC.trans HE5 og);obtain ⟨-,-,-,-,-,-,-,-,yb⟩:=HC _ HE6;have z6:Hid (ah W2.heap.size w6):=⟨_,_,yb⟩;obtain ⟨r0,r1,t0,t1,f0,f1⟩:=z6.out.open;clear og HO yb;have hb7:=ah.res (x:=.string n4) (y:=.string d4) z6.out;go_wp2_with fail;refine bodyPost_ret (results_cell_row (by rfl) _ _ W2.heap.size 152 #[.string n4,.string d4] (0,0) _ (by rfl) hb7 underlying152 (by rfl) (by kernel_rfl)) (by rfl) ⟨rfl,?_⟩;exact eH (HE.trans HE6) HR
end Go.Proofs.YtjlkkofmojgipaaGreatDoor
