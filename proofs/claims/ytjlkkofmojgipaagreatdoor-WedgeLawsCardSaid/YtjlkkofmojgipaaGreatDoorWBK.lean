import Derived.Test.YtjlkkofmojgipaaGreatDoorWAF
import Derived.Test.YtjlkkofmojgipaaGreatDoorWBI
import Derived.Test.YtjlkkofmojgipaaGreatDoorWAU
import Derived.Test.YtjlkkofmojgipaaGreatDoorWAS
namespace Go.Proofs.YtjlkkofmojgipaaGreatDoor
set_option linter.unusedVariables false
set_option linter.unusedSimpArgs false
open Go.RowKit
def sI (f:Nat→Int):Nat→Int
 | 0=>0
 | n+1=>sI f n+f n
theorem sI_congr {f g:Nat→Int}:∀ {n:Nat},(∀ i,i<n→f i=g i)→sI f n=sI g n
 | 0,_=>rfl
 | n+1,h=>by rw [sI,sI,sI_congr fun i hi=>h i (by omega),h n (by omega)]
theorem sI_zero {f:Nat→Int}:∀ {n:Nat},(∀ i,i<n→f i=0)→sI f n=0
 | 0,_=>rfl
 | n+1,h=>by rw [sI,sI_zero fun i hi=>h i (by omega),h n (by omega)];rfl
theorem sI_add (f g:Nat→Int):∀ n,sI (fun i=>f i+g i) n=sI f n+sI g n
 | 0=>rfl
 | n+1=>by rw [sI,sI,sI,sI_add f g n];omega
theorem sI_mul (c:Int) (f:Nat→Int):∀ n,sI (fun i=>c*f i) n=c*sI f n
 | 0=>by simp [sI]
 | n+1=>by rw [sI,sI,sI_mul c f n,Int.mul_add]
theorem sI_comm (f : Nat → Nat → Int) (n : Nat) : ∀ m, sI (fun i => sI (fun j => f i j) n) m = sI (fun j => sI (fun i => f i j) m) n
  | 0 => (sI_zero fun _ _ => rfl).symm
  | m + 1 => by
    rw [sI, sI_comm f n m, ← sI_add]
    exact sI_congr fun j _ => rfl
theorem sI_at {f : Nat → Int} {p : Nat} : ∀ {n : Nat}, p < n → (∀ i, i < n → i ≠ p → f i = 0) → sI f n = f p
  | 0, h, _ => absurd h (by omega)
  | n + 1, h, h0 => by
    rw [sI]
    by_cases e : p = n
    · subst e
      rw [sI_zero fun i hi => h0 i (by omega) (by omega)]; omega
    · rw [sI_at (by omega) fun i hi hne => h0 i (by omega) hne, h0 n (by omega) (fun e2 => e e2.symm)]; omega
theorem addAt_get (l:List Int) (p q:Nat) (x:Int) (hq:q<l.length):(addAt l p x).getD q 0=l.getD q 0+if p=q then x else 0:=by
 unfold addAt
 rw [List.getD_eq_getElem?_getD,List.getElem?_set]
 by_cases h:p=q
 ·subst h
  rw [if_pos rfl,if_pos rfl,if_pos hq];rfl
 ·rw [if_neg h,if_neg h,← List.getD_eq_getElem?_getD];omega
theorem getD_of {l:List Int} {i:Nat} {x:Int} (h:l[i]?=some x):l.getD i 0=x:=by rw [List.getD_eq_getElem?_getD,h];rfl
theorem ext_getD {l m:List Int} (h:l.length=m.length) (hg:∀ i,i<l.length→l.getD i 0=m.getD i 0):l=m:=by
 apply List.ext_getElem h
 intro i h1 h2
 have:=hg i h1
 rw [List.getD_eq_getElem?_getD,List.getD_eq_getElem?_getD,List.getElem?_eq_getElem h1,List.getElem?_eq_getElem h2] at this
 exact this
def pairSg (n a b i k:Nat):Int:=if (allW n a).getD i 0 &&& (allW n b).getD k 0≠0 then 0 else if oddW ((allW n a).getD i 0) ((allW n b).getD k 0)=true then -1 else 1
def pairPl (n a b i k:Nat):Nat:=placeW n (a+b) ((allW n a).getD i 0 ||| (allW n b).getD k 0)
def coefP (n a b i k p:Nat):Int:=if pairPl n a b i k=p then pairSg n a b i k else 0
theorem sgnI_mul (x:Int) (o:Bool):sgnI x o=(if o=true then -1 else 1)*x:=by
 unfold sgnI;split <;> omega
theorem step_get {n a b:Nat} {A B acc:List Int} {i k p:Nat} (hp:p<acc.length):(stepP n a b A B i k acc).getD p 0=acc.getD p 0+coefP n a b i k p*(A.getD i 0*B.getD k 0):=by
 unfold stepP coefP pairSg pairPl
 by_cases h:(allW n a).getD i 0 &&& (allW n b).getD k 0≠0
 ·rw [if_pos (.inl h),if_pos h];simp
 ·by_cases h1:A.getD i 0=0
  ·rw [if_pos (.inr (.inl h1)),h1];simp
  ·by_cases h2:B.getD k 0=0
   ·rw [if_pos (.inr (.inr h2)),h2];simp
   ·rw [if_neg (by rintro (e | e | e);exact h e;exact h1 e;exact h2 e),addAt_get _ _ _ _ hp,if_neg h,sgnI_mul]
    split
    ·rfl
    ·simp
theorem row_get {n a b : Nat} {A B acc : List Int} {i p : Nat} (hp : p < acc.length) : ∀ K, (rowP n a b A B i acc K).getD p 0 = acc.getD p 0 + sI (fun k => coefP n a b i k p * (A.getD i 0 * B.getD k 0)) K
  | 0 => by simp [rowP, sI]
  | K + 1 => by
    rw [rowP, step_get (by rw [rowP_len]; exact hp), row_get hp K, sI]; omega
theorem prodTo_get {n a b : Nat} {A B : List Int} {p : Nat} (hp : p < (allW n (a + b)).length) : ∀ I, (prodTo n a b A B I).getD p 0 = sI (fun i => sI (fun k => coefP n a b i k p * (A.getD i 0 * B.getD k 0)) (allW n b).length) I
  | 0 => by
    rw [prodTo, List.getD_eq_getElem?_getD, List.getElem?_replicate, if_pos hp]; rfl
  | I + 1 => by
    rw [prodTo, row_get (by rw [prodTo_len]; exact hp), prodTo_get hp I, sI]
theorem prod_get {n a b:Nat} {A B:List Int} {p:Nat} (hp:p<(allW n (a+b)).length):(prodL n a b A B).getD p 0=sI (fun i=>sI (fun k=>coefP n a b i k p*(A.getD i 0*B.getD k 0)) (allW n b).length) (allW n a).length:=prodTo_get hp _
theorem prodL_len (n a b:Nat) (A B:List Int):(prodL n a b A B).length=(allW n (a+b)).length:=prodTo_len _ _ _ _ _ _
def inB (n a b:Nat):Bool:=(List.range (allW n a).length).all fun i=>(List.range (allW n b).length).all fun k=>decide (pairSg n a b i k=0) || decide (pairPl n a b i k<(allW n (a+b)).length)
theorem in_all:∀ n,n<5→∀ a,a<n+1→∀ b,b<n+1-a→inB n a b=true:=by decide +kernel
theorem pair_in {n a b i k:Nat} (hn:n<5) (h:a+b≤n) (hi:i<(allW n a).length) (hk:k<(allW n b).length):pairSg n a b i k=0∨pairPl n a b i k<(allW n (a+b)).length:=by
 have h1:=in_all n hn a (by omega) b (by omega)
 have h2:=List.all_eq_true.1 (List.all_eq_true.1 h1 i (List.mem_range.2 hi)) k (List.mem_range.2 hk)
 rw [Bool.or_eq_true,decide_eq_true_eq,decide_eq_true_eq] at h2
 exact h2
theorem coef_sum {n a b i k:Nat} (hn:n<5) (h:a+b≤n) (hi:i<(allW n a).length) (hk:k<(allW n b).length) (g:Nat→Int):sI (fun p=>coefP n a b i k p*g p) (allW n (a+b)).length=pairSg n a b i k*g (pairPl n a b i k):=by
 rcases pair_in hn h hi hk with h0 | h0
 ·rw [h0,sI_zero fun p _=>by unfold coefP;rw [h0];simp];simp
 ·rw [sI_at h0 fun p _ hne=>by unfold coefP;rw [if_neg (fun e=>hne e.symm)];simp]
  unfold coefP;rw [if_pos rfl]
def assocB (n a b c:Nat):Bool:=(List.range (allW n a).length).all fun i=>(List.range (allW n b).length).all fun k=>(List.range (allW n c).length).all fun j=>(List.range (allW n (a+b+c)).length).all fun q =>
 decide (pairSg n a b i k*coefP n (a+b) c (pairPl n a b i k) j q=pairSg n b c k j*coefP n a (b+c) i (pairPl n b c k j) q)
theorem assoc_all:∀ n,n<5→∀ a,a<n+1→∀ b,b<n+1-a→∀ c,c<n+1-(a+b)→assocB n a b c=true:=by decide +kernel
theorem assoc_get {n a b c i k j q:Nat} (hn:n<5) (h:a+b+c≤n) (hi:i<(allW n a).length) (hk:k<(allW n b).length) (hj:j<(allW n c).length) (hq:q<(allW n (a+b+c)).length) :
  pairSg n a b i k*coefP n (a+b) c (pairPl n a b i k) j q=pairSg n b c k j*coefP n a (b+c) i (pairPl n b c k j) q:=by
 have h1:=assoc_all n hn a (by omega) b (by omega) c (by omega)
 have h2:=List.all_eq_true.1 (List.all_eq_true.1 (List.all_eq_true.1 (List.all_eq_true.1 h1 i (List.mem_range.2 hi)) k (List.mem_range.2 hk)) j (List.mem_range.2 hj)) q (List.mem_range.2 hq)
 exact of_decide_eq_true h2
theorem prod_assoc {n a b c:Nat} (hn:n<5) (h:a+b+c≤n) (A B C:List Int):prodL n (a+b) c (prodL n a b A B) C=prodL n a (b+c) A (prodL n b c B C):=by
 have hlen:(prodL n (a+b) c (prodL n a b A B) C).length=(prodL n a (b+c) A (prodL n b c B C)).length:=by rw [prodL_len,prodL_len,Nat.add_assoc]
 refine ext_getD hlen fun q hq=>?_
 rw [prodL_len] at hq
 rw [prod_get hq,prod_get (by rw [← Nat.add_assoc];exact hq)]
 have eL:sI (fun p=>sI (fun j=>coefP n (a+b) c p j q*((prodL n a b A B).getD p 0*C.getD j 0)) (allW n c).length) (allW n (a+b)).length
   = sI (fun i=>sI (fun k=>sI (fun j=>(pairSg n a b i k*coefP n (a+b) c (pairPl n a b i k) j q)*(A.getD i 0*B.getD k 0*C.getD j 0)) (allW n c).length) (allW n b).length) (allW n a).length:=by
  have e1:∀ p,p<(allW n (a+b)).length→sI (fun j=>coefP n (a+b) c p j q*((prodL n a b A B).getD p 0*C.getD j 0)) (allW n c).length
    = sI (fun i=>sI (fun k=>coefP n a b i k p*sI (fun j=>coefP n (a+b) c p j q*(A.getD i 0*B.getD k 0*C.getD j 0)) (allW n c).length) (allW n b).length) (allW n a).length:=by
   intro p hp
   have e2:∀ i k,coefP n a b i k p*sI (fun j=>coefP n (a+b) c p j q*(A.getD i 0*B.getD k 0*C.getD j 0)) (allW n c).length=sI (fun j=>coefP n (a+b) c p j q*C.getD j 0*(coefP n a b i k p*(A.getD i 0*B.getD k 0))) (allW n c).length:=by
    intro i k
    rw [← sI_mul]
    exact sI_congr fun j _=>by
     simp only [Int.mul_comm,Int.mul_left_comm,Int.mul_assoc]
   rw [sI_congr fun i _=>sI_congr fun k _=>e2 i k]
   rw [sI_congr fun i _=>sI_comm (fun k j=>coefP n (a+b) c p j q*C.getD j 0*(coefP n a b i k p*(A.getD i 0*B.getD k 0))) _ _,sI_comm]
   refine sI_congr fun j _=>?_
   rw [prod_get hp]
   rw [sI_congr fun i _=>sI_mul _ _ _,sI_mul]
   simp only [Int.mul_comm,Int.mul_left_comm,Int.mul_assoc]
  rw [sI_congr e1,sI_comm]
  refine sI_congr fun i hi=>?_
  rw [sI_comm]
  refine sI_congr fun k hk=>?_
  rw [coef_sum hn (by omega) hi hk,← sI_mul]
  exact sI_congr fun j _=>by simp only [Int.mul_assoc]
 have eR:sI (fun i=>sI (fun r=>coefP n a (b+c) i r q*(A.getD i 0*(prodL n b c B C).getD r 0)) (allW n (b+c)).length) (allW n a).length
   = sI (fun i=>sI (fun k=>sI (fun j=>(pairSg n b c k j*coefP n a (b+c) i (pairPl n b c k j) q)*(A.getD i 0*B.getD k 0*C.getD j 0)) (allW n c).length) (allW n b).length) (allW n a).length:=by
  refine sI_congr fun i hi=>?_
  have e1:∀ r,r<(allW n (b+c)).length→coefP n a (b+c) i r q*(A.getD i 0*(prodL n b c B C).getD r 0)=sI (fun k=>sI (fun j=>coefP n b c k j r*(coefP n a (b+c) i r q*(A.getD i 0*B.getD k 0*C.getD j 0))) (allW n c).length) (allW n b).length:=by
   intro r hr
   rw [prod_get hr,← sI_mul,← sI_mul]
   refine sI_congr fun k _=>?_
   rw [← sI_mul,← sI_mul]
   refine sI_congr fun j _=>?_
   simp only [Int.mul_comm,Int.mul_left_comm,Int.mul_assoc]
  rw [sI_congr e1,sI_comm]
  refine sI_congr fun k hk=>?_
  rw [sI_comm]
  refine sI_congr fun j hj=>?_
  rw [coef_sum hn (by omega) hk hj];simp only [Int.mul_assoc]
 rw [eL,eR]
 refine sI_congr fun i hi=>sI_congr fun k hk=>sI_congr fun j hj=>?_
 rw [assoc_get hn h hi hk hj hq]
def flipB (n a b:Nat):Bool:=(List.range (allW n a).length).all fun i=>(List.range (allW n b).length).all fun k=>(List.range (allW n (a+b)).length).all fun p =>
 decide (coefP n a b i k p=(if a*b%2=1 then -1 else 1)*coefP n b a k i p)
theorem flip_all:∀ n,n<5→∀ a,a<n+1→∀ b,b<n+1-a→flipB n a b=true:=by decide +kernel
theorem prod_flip {n a b:Nat} (hn:n<5) (h:a+b≤n) (A B:List Int) (p:Nat) (hp:p<(allW n (a+b)).length):(prodL n a b A B).getD p 0=(if a*b%2=1 then -1 else 1)*(prodL n b a B A).getD p 0:=by
 rw [prod_get hp,prod_get (by rw [Nat.add_comm];exact hp),sI_comm,← sI_mul]
 refine sI_congr fun k hk=>?_
 rw [← sI_mul]
 refine sI_congr fun i hi=>?_
 have h1:=flip_all n hn a (by omega) b (by omega)
 have h2:=List.all_eq_true.1 (List.all_eq_true.1 (List.all_eq_true.1 h1 i (List.mem_range.2 hi)) k (List.mem_range.2 hk)) p (List.mem_range.2 hp)
 rw [of_decide_eq_true h2,Int.mul_comm (A.getD i 0)]
 simp only [Int.mul_assoc]
theorem small_dig {X:List Int} {M:Nat} (h:∀ x∈X,x.natAbs≤M) (hM:M≤1000000000000000):Digits400 X:=fun x hx=>Nat.lt_of_le_of_lt (Nat.le_trans (h x hx) hM) (by decide +kernel)
theorem right_of {n k:Nat} {X:List Int} (hn:n<5) (hk:k≤n) (hl:X.length=(allW n k).length) {M:Nat} (h:∀ x∈X,x.natAbs≤M) (hM:M≤1000000000000000):RightM n k X:=⟨by omega,hk,hl,small_dig h hM⟩
theorem kd_parity:∀ k,k<5→∀ d,d<5→(((k*d:Nat):Int).tmod 2 == 1)=decide (k*d%2=1):=by decide +kernel
end Go.Proofs.YtjlkkofmojgipaaGreatDoor
namespace Go.Proofs.YtjlkkofmojgipaaGreatDoor
set_option linter.unusedVariables false
open Go.RowKit
section
variable {P:Program} {ops O:Array Oper} {Q:Exit→Act→World→Prop} {md:Region.Mode} {S:World→Prop} {z:Nat}
end
section
variable {P:Program} {ops O:Array Oper} {Q:Exit→Act→World→Prop} {md:Region.Mode} {S:World→Prop} {z:Nat}
theorem count_listed_eq {l:Array Bool} {i f:Nat} (hi:l.getD i true=false) (h:l.toList.count false=f+1):(l.setIfInBounds i true).toList.count false=f:=by
 have hs:i<l.size:=by
  by_cases hs:i<l.size
  ·exact hs
  ·rw [Array.getD_eq_getD_getElem?,Array.getElem?_eq_none (by omega)] at hi;cases hi
 have hv:l.toList[i]'(by simpa using hs)=false:=by
  rw [Array.getD_eq_getD_getElem?,Array.getElem?_eq_getElem hs] at hi
  simpa using hi
 rw [Array.toList_setIfInBounds,List.count_set (h:=by simpa using hs),hv,if_pos (by rfl),if_neg (by decide)]
 omega
theorem anyE_phase (Inv : Array Bool → Act → World → Prop) (m : Nat) (hS : ∀ l b u, Inv l b u → S u)
    (hne : ∀ l b u, Inv l b u → m < l.toList.count false → Region.ready md ops l ≠ [])
    (hstep : ∀ l b u i o, Inv l b u → m < l.toList.count false → i ∈ Region.ready md ops l → ops[i]? = some o → ∀ K : Act → World → Prop, Shut (∀ b' u', Inv (l.setIfInBounds i true) b' u' → K b' u') → if Region.wanted o (yielded ops b.tmps) = true then Oper.wp P o b u K Q else K (b.put o.dst undef) u)
    (hend : ∀ l b u, Inv l b u → l.toList.count false = m → anyE P md ops Q S z m l b u) : ∀ (f : Nat) (l : Array Bool) (a : Act) (w : World), l.toList.count false = f + m → Inv l a w → anyE P md ops Q S z (f + m) l a w
  | 0, l, a, w, hf, hI => by rw [Nat.zero_add] at hf ⊢; exact hend l a w hI hf
  | f + 1, l, a, w, hf, hI => by
    rw [show f + 1 + m = (f + m) + 1 by omega] at hf ⊢
    refine ⟨fun e => absurd e (hne l a w hI (by omega)), fun i hi => ?_⟩
    obtain ⟨h1, o, ho, -⟩ := mem_ready.1 hi
    exact wpOp_step ho fun K hK => hstep l a w i o hI (by omega) hi ho K fun b u hb => hK b u ⟨fun _ => hS _ _ _ hb, anyE_phase Inv m hS hne hstep hend f _ b u (count_listed_eq h1 hf) hb⟩
end
structure SixS where
 c0:Bool
 c1:Bool
 c2:Bool
 d0:Bool
 d1:Bool
 d2:Bool
 r0:Value
 r1:Value
 r2:Value
 p0:Value
 p1:Value
 p2:Value
theorem eval_put_ne {a:Act} {i j:Nat} {v:Value} (h:i≠j):(a.put (some i) v).eval (.tmp j)=a.eval (.tmp j) :=
 Act.eval_put fun d hd e=>by cases hd;cases e;exact h rfl
theorem put_put (a:Act) (i:Nat) (x y:Value):(a.put (some i) x).put (some i) y=a.put (some i) y:=by
 simp only [Act.put,Array.setIfInBounds_setIfInBounds]
theorem put_ne (a:Act) {i j:Nat} (h:i≠j) (x y:Value):(a.put (some i) x).put (some j) y=(a.put (some j) y).put (some i) x :=
 Act.put_comm a x y fun d hd e=>by cases hd;cases e;exact h rfl
theorem put_self (a:Act) (i:Nat):a.put (some i) (a.tmps.getD i undef)=a:=by
 simp only [Act.put]
 have:a.tmps.setIfInBounds i (a.tmps.getD i undef)=a.tmps:=by
  apply Array.ext_getElem?
  intro j
  rw [Array.getElem?_setIfInBounds]
  split
  ·rename_i h
   subst h
   split
   ·rename_i h2
    rw [Array.getElem?_eq_getElem h2];rfl
   ·rename_i h2
    rw [Array.getElem?_eq_none (by omega)]
  ·rfl
 rw [this]
def ch6 (a:Act) (i0 i1 i2 i3 i4 i5:Nat) (s:SixS):Act:=(((((a.put (some i0) s.r0).put (some i1) s.r1).put (some i2) s.r2).put (some i3) s.p0).put (some i4) s.p1).put (some i5) s.p2
section
variable {a:Act} {i0 i1 i2 i3 i4 i5:Nat} {s:SixS}
theorem ch6_eval {j:Nat} (h0:i0≠j) (h1:i1≠j) (h2:i2≠j) (h3:i3≠j) (h4:i4≠j) (h5:i5≠j):(ch6 a i0 i1 i2 i3 i4 i5 s).eval (.tmp j)=a.eval (.tmp j):=by
 unfold ch6;rw [eval_put_ne h5,eval_put_ne h4,eval_put_ne h3,eval_put_ne h2,eval_put_ne h1,eval_put_ne h0]
theorem ch6_start {c0 c1 c2 d0 d1 d2:Bool}:ch6 a i0 i1 i2 i3 i4 i5 ⟨c0,c1,c2,d0,d1,d2,a.tmps.getD i0 undef,a.tmps.getD i1 undef,a.tmps.getD i2 undef,a.tmps.getD i3 undef,a.tmps.getD i4 undef,a.tmps.getD i5 undef⟩=a:=by
 unfold ch6;simp only [put_self]
theorem ch6_0 {v:Value} {c:Bool} (h1:i1≠i0) (h2:i2≠i0) (h3:i3≠i0) (h4:i4≠i0) (h5:i5≠i0):(ch6 a i0 i1 i2 i3 i4 i5 s).put (some i0) v=ch6 a i0 i1 i2 i3 i4 i5 { s with c0:=c,r0:=v }:=by
 unfold ch6;rw [put_ne _ h5,put_ne _ h4,put_ne _ h3,put_ne _ h2,put_ne _ h1,put_put]
theorem ch6_1 {v:Value} {c:Bool} (h2:i2≠i1) (h3:i3≠i1) (h4:i4≠i1) (h5:i5≠i1):(ch6 a i0 i1 i2 i3 i4 i5 s).put (some i1) v=ch6 a i0 i1 i2 i3 i4 i5 { s with c1:=c,r1:=v }:=by
 unfold ch6;rw [put_ne _ h5,put_ne _ h4,put_ne _ h3,put_ne _ h2,put_put]
theorem ch6_2 {v:Value} {c:Bool} (h3:i3≠i2) (h4:i4≠i2) (h5:i5≠i2):(ch6 a i0 i1 i2 i3 i4 i5 s).put (some i2) v=ch6 a i0 i1 i2 i3 i4 i5 { s with c2:=c,r2:=v }:=by
 unfold ch6;rw [put_ne _ h5,put_ne _ h4,put_ne _ h3,put_put]
theorem ch6_3 {v:Value} {c:Bool} (h4:i4≠i3) (h5:i5≠i3):(ch6 a i0 i1 i2 i3 i4 i5 s).put (some i3) v=ch6 a i0 i1 i2 i3 i4 i5 { s with d0:=c,p0:=v }:=by
 unfold ch6;rw [put_ne _ h5,put_ne _ h4,put_put]
theorem ch6_4 {v:Value} {c:Bool} (h5:i5≠i4):(ch6 a i0 i1 i2 i3 i4 i5 s).put (some i4) v=ch6 a i0 i1 i2 i3 i4 i5 { s with d1:=c,p1:=v }:=by
 unfold ch6;rw [put_ne _ h5,put_put]
theorem ch6_5 {v:Value} {c:Bool}:(ch6 a i0 i1 i2 i3 i4 i5 s).put (some i5) v=ch6 a i0 i1 i2 i3 i4 i5 { s with d2:=c,p2:=v }:=by
 unfold ch6;rw [put_put]
end
theorem wp_call2 {P:Program} {o:Oper} {a:Act} {w:World} {K:Act→World→Prop} {Q:Exit→Act→World→Prop} (f:Nat) (x y:Operand) (T:Array TypeId) (ho:o.op=.call { callee:=.value (.func f),args:=#[x,y],argTypes:=T }) (he:∀ args w,(callFunc f args).run P w=.ok (.enter f args) w) {vx vy:Value} (hx:a.eval x=vx) (hy:a.eval y=vy)
  (h:Calls P f #[vx,vy] w fun e w'=>∃ v,e=.returned v∧K (a.put o.dst v) w'):o.wp P a w K Q:=by
 unfold Oper.wp
 have hr:(execOp a.eval o).run P w=.ok (.enter f #[vx,vy]) w:=by
  have hf:a.eval (.func f)=.func (.func f) #[] #[]:=rfl
  simp [execOp,ho,resolve,hf,Deferred.ofValue,invoke,hx,hy,he]
 rw [hr,Oper.upon_enter]
 refine h.mono ?_
 rintro e w' ⟨v,rfl,hk⟩
 exact hk
def CallF (w:World) (c:Bool) (v:Value) (n k N:Nat) (X:List Int):Prop:=c=true→∃ a cc,v=.agg #[.int .i64 n,.int .i64 k,.slice a N cc]∧ListAt 1 numC w (.slice a N cc) X
def BoxF (B:Nat) (w:World) (c:Bool) (p:Value):Prop:=c=true→∃ g,p=.pointer (some ⟨g,0,none⟩)∧B≤g∧w.heap[g]?=some (.cells #[.int .i64 0,.int .i64 0,.slice none 0 0] 31 (0,0))
def ApF (c c':Bool) (p p':Value):Prop:=c=true→c'=true→p≠p'
theorem CallF.ext {w w':World} {c:Bool} {v:Value} {n k N:Nat} {X:List Int} (h:CallF w c v n k N X) (he:Ext w w'):CallF w' c v n k N X:=fun hc=>by
 obtain ⟨a,cc,h1,h2⟩:=h hc
 exact ⟨a,cc,h1,ListAt.ext numC.mono' h2 he⟩
theorem BoxF.ext {B:Nat} {w w':World} {c:Bool} {p:Value} (h:BoxF B w c p) (he:Ext w w'):BoxF B w' c p:=fun hc=>by
 obtain ⟨g,h1,h2,h3⟩:=h hc
 exact ⟨g,h1,h2,block_ext h3 he⟩
theorem BoxF.ne {B:Nat} {w:World} {c c':Bool} {p:Value} (h:BoxF B w c p):ApF c c' p (.pointer (some ⟨w.heap.size,0,none⟩)):=fun hc _=>by
 obtain ⟨g,h1,h2,h3⟩:=h hc
 have h4:=block_lt h3
 rw [h1]
 intro e
 simp only [Value.pointer.injEq,Option.some.injEq,Addr.mk.injEq,and_true] at e
 omega
theorem ApF.symm {c c':Bool} {p p':Value} (h:ApF c c' p p'):ApF c' c p' p:=fun a b e=>h b a e.symm
theorem anyE_name {P:Program} {md:Region.Mode} {ops:Array Oper} {Q:Exit→Act→World→Prop} {S:World→Prop} {z f:Nat} {l:Array Bool} {a:Act} {w:World} (h:∀ a0,a0=a→anyE P md ops Q S z f l a0 w):anyE P md ops Q S z f l a w:=h a rfl
theorem BoxF.new {B:Nat} {w:World} (h:B≤w.heap.size):BoxF B (w.alloc (.cells #[.int .i64 0,.int .i64 0,.slice none 0 0] 31)) true (.pointer (some ⟨w.heap.size,0,none⟩)):=fun _=>⟨_,rfl,h,block_new _ _ _⟩
def sixL (c0 c1 c2 d0 d1 d2:Bool):Array Bool:=#[true,true,true,c0,true,true,true,c1,true,true,true,c2,d0,d1,d2,false,false,false]
def sixB (md:Region.Mode) (ops:Array Oper) (c0 c1 c2 d0 d1 d2:Bool):Bool :=
 (decide ((sixL c0 c1 c2 d0 d1 d2).toList.count false≤3) || (!(Region.ready md ops (sixL c0 c1 c2 d0 d1 d2)).isEmpty &&
  ((c1 && !c0) || (c2 && !c1) || (Region.ready md ops (sixL c0 c1 c2 d0 d1 d2)).all fun i=>(decide (i=3) && !c0) || (decide (i=7) && (!c1 && c0)) || (decide (i=11) && (!c2 && c1)) || (decide (i=12) && !d0) || (decide (i=13) && !d1) || (decide (i=14) && !d2))))
theorem six_ready {md:Region.Mode} {ops:Array Oper} {c0 c1 c2 d0 d1 d2:Bool} (h:sixB md ops c0 c1 c2 d0 d1 d2=true) (hc:3<(sixL c0 c1 c2 d0 d1 d2).toList.count false):Region.ready md ops (sixL c0 c1 c2 d0 d1 d2)≠[]:=by
 unfold sixB at h
 rw [decide_eq_false (by omega),Bool.false_or,Bool.and_eq_true] at h
 intro e
 rw [e] at h
 simp at h
theorem six_in {md:Region.Mode} {ops:Array Oper} {c0 c1 c2 d0 d1 d2:Bool} (h:sixB md ops c0 c1 c2 d0 d1 d2=true) (h1:c1=true→c0=true) (h2:c2=true→c1=true) (hc:3<(sixL c0 c1 c2 d0 d1 d2).toList.count false) (i:Nat) (hi:i∈Region.ready md ops (sixL c0 c1 c2 d0 d1 d2)) :
  (i=3∧c0=false)∨(i=7∧c1=false∧c0=true)∨(i=11∧c2=false∧c1=true)∨(i=12∧d0=false)∨(i=13∧d1=false)∨(i=14∧d2=false):=by
 unfold sixB at h
 rw [decide_eq_false (by omega),Bool.false_or,Bool.and_eq_true] at h
 have h3:=h.2
 have e1:(c1 && !c0)=false:=by cases c1 <;> cases c0 <;> simp_all
 have e2:(c2 && !c1)=false:=by cases c2 <;> cases c1 <;> simp_all
 rw [e1,e2,Bool.false_or,Bool.false_or] at h3
 have h4:=List.all_eq_true.1 h3 i hi
 simp only [Bool.or_eq_true,Bool.and_eq_true,decide_eq_true_eq,Bool.not_eq_true'] at h4
 rcases h4 with ((((h4 | h4) | h4) | h4) | h4) | h4
 ·exact .inl h4
 ·exact .inr (.inl h4)
 ·exact .inr (.inr (.inl h4))
 ·exact .inr (.inr (.inr (.inl h4)))
 ·exact .inr (.inr (.inr (.inr (.inl h4))))
 ·exact .inr (.inr (.inr (.inr (.inr h4))))
theorem six_all:∀ c0 c1 c2 d0 d1 d2:Bool,(sixL c0 c1 c2 d0 d1 d2).toList.count false=3→c0=true∧c1=true∧c2=true∧d0=true∧d1=true∧d2=true:=by
 intro c0 c1 c2 d0 d1 d2
 cases c0 <;> cases c1 <;> cases c2 <;> cases d0 <;> cases d1 <;> cases d2 <;> simp [sixL]
structure Six3 (w3:World) (n k0 N0:Nat) (X0:List Int) (k1 N1:Nat) (X1:List Int) (k2 N2:Nat) (X2:List Int) (s:SixS) (u:World):Prop where
 ext:Ext w3 u
 ch1:s.c1=true→s.c0=true
 ch2:s.c2=true→s.c1=true
 f0:CallF u s.c0 s.r0 n k0 N0 X0
 f1:CallF u s.c1 s.r1 n k1 N1 X1
 f2:CallF u s.c2 s.r2 n k2 N2 X2
 b0:BoxF w3.heap.size u s.d0 s.p0
 b1:BoxF w3.heap.size u s.d1 s.p1
 b2:BoxF w3.heap.size u s.d2 s.p2
 a01:ApF s.d0 s.d1 s.p0 s.p1
 a02:ApF s.d0 s.d2 s.p0 s.p2
 a12:ApF s.d1 s.d2 s.p1 s.p2
section
variable {w3:World} {n k0 N0:Nat} {X0:List Int} {k1 N1:Nat} {X1:List Int} {k2 N2:Nat} {X2:List Int} {s:SixS} {u u':World}
theorem Six3.start {r0 r1 r2 p0 p1 p2:Value} (h:Ext w3 u):Six3 w3 n k0 N0 X0 k1 N1 X1 k2 N2 X2 ⟨false,false,false,false,false,false,r0,r1,r2,p0,p1,p2⟩ u :=
 ⟨h,fun h=>h,fun h=>h,(fun h=>nomatch h),(fun h=>nomatch h),(fun h=>nomatch h),(fun h=>nomatch h),(fun h=>nomatch h),(fun h=>nomatch h),(fun h=>nomatch h),(fun h=>nomatch h),(fun h=>nomatch h)⟩
theorem Six3.call0 (H:Six3 w3 n k0 N0 X0 k1 N1 X1 k2 N2 X2 s u) (hs:s.c0=false) {a:Option Addr} {c:Nat} (hR:ListAt 1 numC u' (.slice a N0 c) X0) (hE:Ext u u'):Six3 w3 n k0 N0 X0 k1 N1 X1 k2 N2 X2 { s with c0:=true,r0:=.agg #[.int .i64 n,.int .i64 k0,.slice a N0 c] } u' :=
 ⟨H.ext.trans hE,fun _=>rfl,H.ch2,fun _=>⟨a,c,rfl,hR⟩,H.f1.ext hE,H.f2.ext hE,H.b0.ext hE,H.b1.ext hE,H.b2.ext hE,H.a01,H.a02,H.a12⟩
theorem Six3.call1 (H:Six3 w3 n k0 N0 X0 k1 N1 X1 k2 N2 X2 s u) (hs:s.c1=false∧s.c0=true) {a:Option Addr} {c:Nat} (hR:ListAt 1 numC u' (.slice a N1 c) X1) (hE:Ext u u'):Six3 w3 n k0 N0 X0 k1 N1 X1 k2 N2 X2 { s with c1:=true,r1:=.agg #[.int .i64 n,.int .i64 k1,.slice a N1 c] } u' :=
 ⟨H.ext.trans hE,fun _=>hs.2,fun _=>rfl,H.f0.ext hE,fun _=>⟨a,c,rfl,hR⟩,H.f2.ext hE,H.b0.ext hE,H.b1.ext hE,H.b2.ext hE,H.a01,H.a02,H.a12⟩
theorem Six3.call2 (H:Six3 w3 n k0 N0 X0 k1 N1 X1 k2 N2 X2 s u) (hs:s.c2=false∧s.c1=true) {a:Option Addr} {c:Nat} (hR:ListAt 1 numC u' (.slice a N2 c) X2) (hE:Ext u u'):Six3 w3 n k0 N0 X0 k1 N1 X1 k2 N2 X2 { s with c2:=true,r2:=.agg #[.int .i64 n,.int .i64 k2,.slice a N2 c] } u' :=
 ⟨H.ext.trans hE,H.ch1,fun _=>hs.2,H.f0.ext hE,H.f1.ext hE,fun _=>⟨a,c,rfl,hR⟩,H.b0.ext hE,H.b1.ext hE,H.b2.ext hE,H.a01,H.a02,H.a12⟩
theorem Six3.box0 (H:Six3 w3 n k0 N0 X0 k1 N1 X1 k2 N2 X2 s u) (hs:s.d0=false):Six3 w3 n k0 N0 X0 k1 N1 X1 k2 N2 X2 { s with d0:=true,p0:=.pointer (some ⟨u.heap.size,0,none⟩) } (u.alloc (.cells #[.int .i64 0,.int .i64 0,.slice none 0 0] 31)) :=
 have hE:=Ext.alloc u (.cells #[.int .i64 0,.int .i64 0,.slice none 0 0] 31)
 ⟨H.ext.trans hE,H.ch1,H.ch2,H.f0.ext hE,H.f1.ext hE,H.f2.ext hE,BoxF.new H.ext.size,H.b1.ext hE,H.b2.ext hE,H.b1.ne.symm,H.b2.ne.symm,H.a12⟩
theorem Six3.box1 (H:Six3 w3 n k0 N0 X0 k1 N1 X1 k2 N2 X2 s u) (hs:s.d1=false):Six3 w3 n k0 N0 X0 k1 N1 X1 k2 N2 X2 { s with d1:=true,p1:=.pointer (some ⟨u.heap.size,0,none⟩) } (u.alloc (.cells #[.int .i64 0,.int .i64 0,.slice none 0 0] 31)) :=
 have hE:=Ext.alloc u (.cells #[.int .i64 0,.int .i64 0,.slice none 0 0] 31)
 ⟨H.ext.trans hE,H.ch1,H.ch2,H.f0.ext hE,H.f1.ext hE,H.f2.ext hE,H.b0.ext hE,BoxF.new H.ext.size,H.b2.ext hE,H.b0.ne,H.a02,H.b2.ne.symm⟩
theorem Six3.box2 (H:Six3 w3 n k0 N0 X0 k1 N1 X1 k2 N2 X2 s u) (hs:s.d2=false):Six3 w3 n k0 N0 X0 k1 N1 X1 k2 N2 X2 { s with d2:=true,p2:=.pointer (some ⟨u.heap.size,0,none⟩) } (u.alloc (.cells #[.int .i64 0,.int .i64 0,.slice none 0 0] 31)) :=
 have hE:=Ext.alloc u (.cells #[.int .i64 0,.int .i64 0,.slice none 0 0] 31)
 ⟨H.ext.trans hE,H.ch1,H.ch2,H.f0.ext hE,H.f1.ext hE,H.f2.ext hE,H.b0.ext hE,H.b1.ext hE,BoxF.new H.ext.size,H.a01,H.b0.ne,H.b1.ne⟩
structure Six9 (w3:World) (g0 g1 g2:Nat) (u:World):Prop where
 ext:Ext w3 u
 l0:w3.heap.size≤g0
 l1:w3.heap.size≤g1
 l2:w3.heap.size≤g2
 n01:g0≠g1
 n02:g0≠g2
 n12:g1≠g2
 b0:u.heap[g0]?=some (.cells #[.int .i64 0,.int .i64 0,.slice none 0 0] 31 (0,0))
 b1:u.heap[g1]?=some (.cells #[.int .i64 0,.int .i64 0,.slice none 0 0] 31 (0,0))
 b2:u.heap[g2]?=some (.cells #[.int .i64 0,.int .i64 0,.slice none 0 0] 31 (0,0))
theorem Six3.all {r0 r1 r2 p0 p1 p2:Value} (H:Six3 w3 n k0 N0 X0 k1 N1 X1 k2 N2 X2 ⟨true,true,true,true,true,true,r0,r1,r2,p0,p1,p2⟩ u) :
  ∃ g0 g1 g2 a0 c0 a1 c1 a2 c2,r0=.agg #[.int .i64 n,.int .i64 k0,.slice a0 N0 c0]∧r1=.agg #[.int .i64 n,.int .i64 k1,.slice a1 N1 c1]∧r2=.agg #[.int .i64 n,.int .i64 k2,.slice a2 N2 c2] ∧
   p0=.pointer (some ⟨g0,0,none⟩)∧p1=.pointer (some ⟨g1,0,none⟩)∧p2=.pointer (some ⟨g2,0,none⟩)∧Hid (Six9 w3 g0 g1 g2 u) ∧
   Hid (ListAt 1 numC u (.slice a0 N0 c0) X0)∧Hid (ListAt 1 numC u (.slice a1 N1 c1) X1)∧Hid (ListAt 1 numC u (.slice a2 N2 c2) X2):=by
 obtain ⟨a0,c0,e0,q0⟩:=H.f0 rfl
 obtain ⟨a1,c1,e1,q1⟩:=H.f1 rfl
 obtain ⟨a2,c2,e2,q2⟩:=H.f2 rfl
 obtain ⟨g0,f0,l0,h0⟩:=H.b0 rfl
 obtain ⟨g1,f1,l1,h1⟩:=H.b1 rfl
 obtain ⟨g2,f2,l2,h2⟩:=H.b2 rfl
 have m01:=H.a01 rfl rfl;have m02:=H.a02 rfl rfl;have m12:=H.a12 rfl rfl
 simp only at e0 e1 e2 f0 f1 f2 m01 m02 m12
 rw [f0,f1] at m01;rw [f0,f2] at m02;rw [f1,f2] at m12
 exact ⟨g0,g1,g2,a0,c0,a1,c1,a2,c2,e0,e1,e2,f0,f1,f2,⟨H.ext,l0,l1,l2,fun e=>m01 (by rw [e]),fun e=>m02 (by rw [e]),fun e=>m12 (by rw [e]),h0,h1,h2⟩,q0,q1,q2⟩
end
theorem prodL_small {n ka kb M K:Nat} {A B:List Int} (hn:n<5) (ha:ka≤n) (hb:kb≤n) (hA:∀ x∈A,x.natAbs≤M) (hB:∀ x∈B,x.natAbs≤K):∀ x∈prodL n ka kb A B,x.natAbs≤36*(M*K):=by
 intro x hx
 have h1:=prodTo_le (n:=n) (ka:=ka) (kb:=kb) (N:=M) (M:=K) hA hB (allW n ka).length x hx
 have h2:=Nat.mul_le_mul (allW_six n hn ka (by omega)) (Nat.mul_le_mul_right (M*K) (allW_six n hn kb (by omega)))
 have h3:6*(6*(M*K))=36*(M*K):=by omega
 omega
end Go.Proofs.YtjlkkofmojgipaaGreatDoor
