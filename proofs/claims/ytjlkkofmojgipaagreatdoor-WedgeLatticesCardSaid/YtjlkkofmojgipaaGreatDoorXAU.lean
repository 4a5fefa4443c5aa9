import Derived.Test.YtjlkkofmojgipaaGreatDoorXAT
import Derived.Test.YtjlkkofmojgipaaGreatDoorXAF
import Derived.Test.YtjlkkofmojgipaaGreatDoorXAJ
import Derived.Test.YtjlkkofmojgipaaGreatDoorXAS
import Derived.Test.YtjlkkofmojgipaaGreatDoorXAK
import Derived.Test.YtjlkkofmojgipaaGreatDoorXAP
import Derived.Test.YtjlkkofmojgipaaGreatDoorXAO
import Derived.Test.YtjlkkofmojgipaaGreatDoorXAQ
import Derived.Deep.Cut
set_option linter.unusedVariables false
set_option linter.unusedSimpArgs false
set_option maxRecDepth 1000000
set_option maxHeartbeats 16000000
namespace Go.Proofs.YtjlkkofmojgipaaGreatDoor
open Go.RowKit Go.Proofs.Tryz
theorem Z1g (n:Nat):iF n (aU n) where
 congr:=fun M N h=>dP fun a b ha _=>h a b ha
 swap:=fun M i j h1 h2=>K5_ M h1 h2
 scale:=fun M r c hr=>a7_ M hr c
 add:=fun M r s c h1 h2 h3=>m7_ M h1 h2 h3 c
theorem Z4m {n:Nat} {m:List (List Rat)} (hR:bg n m) (hl:m.length=n) {f:(Nat->Nat->Rat)->Rat} (hf:iF n f)
  (hz:∀ M:Nat->Nat->Rat,(∃ r,r<n/\∀ b,b<n->M r b=0)->f M=0) (hc:∀ M N:Nat->Nat->Rat,(∀ a b,a<n->b<n->M a b=N a b)->f M=f N) :
  f (aH m)=(aj m n).det*f (fun a b=>if a=b then 1 else 0):=by
 obtain ⟨ρ,sg,x,h⟩:=nZ m hR n;rw [hl] at h;rw [h.form f hf,h.det];by_cases e:(aj m n).lead.length=n
 ·rw [if_pos e];congr 1;refine hc _ _ fun a b ha hb=>?_;have:=h.unit a b (by omega);rw [h.full e b hb] at this;exact this
 ·rw [if_neg e,hz _ ⟨(aj m n).lead.length,by have:=h.rle;omega,fun b hb=>h.zero _ b (oJ _) hb⟩];grind
theorem Z5A {n:Nat} {m:List (List Rat)} (hR:bg n m) (hl:m.length=n):(aj m n).det=aU n (aH m):=by
 rw [Z4m hR hl (Z1g n) (fun M ⟨r,hr,h0⟩=>jl hr h0) (fun M N h=>dP h),A7_];grind
theorem Z2o:∀ (r k:Nat) (σ:Nat->Nat),r<k->(∀ a,a<k->σ a<r)->∃ a b,a<b/\b<k/\σ a=σ b
 | 0,k,σ,hk,h=>by have:=h 0 (by omega);omega
 | r+1,k,σ,hk,h=>by
  obtain ⟨k',rfl⟩:∃ k',k=k'+1:=⟨k-1,by omega⟩;by_cases hex:∃ a,a<k'/\σ a=σ k'
  ·obtain ⟨a,ha,he⟩:=hex;exact ⟨a,k',ha,by omega,he⟩
  ·obtain ⟨a,b,h1,h2,h3⟩:=Z2o r k' (fun a=>if σ a=r then σ k' else σ a) (by omega) (fun a ha=>by
    have h1:=h a (by omega);have h2:=h k' (by omega);show (if σ a=r then σ k' else σ a)<r
    split
    ·rename_i e;have:σ k'≠r:=fun e2=>hex ⟨a,ha,by rw [e,e2]⟩;omega
    ·omega)
   refine ⟨a,b,h1,by omega,?_⟩;have n1:σ a≠σ k':=fun e=>hex ⟨a,by omega,e⟩;have n2:σ b≠σ k':=fun e=>hex ⟨b,h2,e⟩
   split at h3 <;> split at h3
   ·omega
   ·exact absurd h3.symm n2
   ·exact absurd h3 n1
   ·exact h3
theorem t8_ {n:Nat} (M:Nat->Nat->Rat) {r:Nat} (hr:r<n) (m:Nat) (t:Nat->Rat) (g:Nat->Nat->Rat) :
  aU n (fun a b=>if a=r then aQ m (fun l=>t l*g l b) else M a b)=aQ m (fun l=>t l*aU n (fun a b=>if a=r then g l b else M a b)):=by
 have h:=Z8_ (fun a b=>M b a) hr (fun _=>0) m t g;rw [<- eW n (fun a b=>if b=r then (0:Rat)+aQ m (fun l=>t l*g l a) else M b a)] at h;have h0:aU n (fun a b=>if b=r then (0:Rat) else M b a)=0:=by
  rw [<- eW];exact jl hr (fun b hb=>by rw [if_pos rfl])
 rw [h0] at h;have e1:(fun a b=>if a=r then (0:Rat)+aQ m (fun l=>t l*g l b) else M a b)=fun a b=>if a=r then aQ m (fun l=>t l*g l b) else M a b:=by
  funext a b;split
  ·grind
  ·rfl
 rw [e1] at h;rw [h];have:∀ x:Rat,0+x=x:=fun x=>by grind
 rw [this];refine di fun l hl=>?_;rw [<- eW]
theorem u9_ {k r:Nat} (hr:r<k) (t g:Nat->Nat->Rat):∀ p,p<=k->∀ σ:Nat->Nat,(∀ a,p<=a->a<k->σ a<r) ->
  aU k (fun a b=>if a<p then aQ r (fun l=>t a l*g l b) else g (σ a) b)=0
 | 0,_,σ,h=>by
  obtain ⟨a,b,h1,h2,h3⟩:=Z2o r k σ hr (fun a ha=>h a (by omega) ha);refine nB (i:=a) (j:=b) (by omega) h2 (by omega) fun c hc=>?_;rw [if_neg (by omega),if_neg (by omega),h3]
 | p+1,hp,σ,h=>by
  have e:(fun a b=>if a<p+1 then aQ r (fun l=>t a l*g l b) else g (σ a) b)=fun a b=>if a=p then aQ r (fun l=>t p l*g l b) else (if a<p then aQ r (fun l=>t a l*g l b) else g (σ a) b):=by
   funext a b;by_cases h1:a=p
   ·subst h1;rw [if_pos (by omega),if_pos rfl]
   ·rw [if_neg h1];by_cases h2:a<p
    ·rw [if_pos (by omega),if_pos h2]
    ·rw [if_neg (by omega),if_neg h2]
  rw [e,t8_ _ (by omega),<- R4_ r];refine di fun l hl=>?_
  have ih:=u9_ hr t g p (by omega) (fun a=>if a=p then l else σ a) (fun a h1 h2=>by
   show (if a=p then l else σ a)<r
   split
   ·exact hl
   ·exact h a (by omega) h2)
  have e2:(fun a b=>if a=p then g l b else (if a<p then aQ r (fun l=>t a l*g l b) else g (σ a) b))=fun a b=>if a<p then aQ r (fun l=>t a l*g l b) else g (if a=p then l else σ a) b:=by
   funext a b;by_cases h1:a=p
   ·subst h1;rw [if_pos rfl,if_neg (by omega),if_pos rfl]
   ·rw [if_neg h1];by_cases h2:a<p
    ·rw [if_pos h2,if_pos h2]
    ·rw [if_neg h2,if_neg h2,if_neg h1]
  rw [e2,ih];grind
def eO (m:List (List Rat)) (C:Nat):Nat:=(aj m C).lead.length
theorem Z1W {C:Nat} {m:List (List Rat)} (hR:bg C m) (c:Nat):eO m (c+1)=eO m c\/eO m (c+1)=eO m c+1:=by
 have hs:=lP hR c;show (bI c (aj m c)).lead.length=(aj m c).lead.length\/(bI c (aj m c)).lead.length=(aj m c).lead.length+1;rcases w7_ (c:=c) hs.1 (by rw [hs.2.1];exact hs.2.2) with ⟨e,-⟩ | ⟨a,-,-,-,-,hl,-⟩
 ·rw [e];exact .inl rfl
 ·rw [hl];exact .inr (by simp)
theorem N1_ {C:Nat} {m:List (List Rat)} (hR:bg C m) {k:Nat}:∀ c,k<=eO m c->∃ c',c'<=c/\eO m c'=k
 | 0,h=>⟨0,oJ _,by have:eO m 0=0:=rfl;omega⟩
 | c+1,h=>by
  by_cases e:k<=eO m c
  ·obtain ⟨c',h1,h2⟩:=N1_ hR c e;exact ⟨c',by omega,h2⟩
  ·refine ⟨c+1,oJ _,?_⟩;rcases Z1W hR c with h1 | h1 <;> omega
theorem Z0x {C:Nat} {m:List (List Rat)} (hR:bg C m) {k:Nat} (hk:k<=eO m C) :
  ∃ ρ κ:Nat->Nat,(∀ a,a<k->ρ a<m.length)/\(∀ b,b<k->κ b<C)/\aU k (fun a b=>aH m (ρ a) (κ b))≠0:=by
 obtain ⟨c,hc,he⟩:=N1_ hR C hk;obtain ⟨ρ,sg,x,h⟩:=nZ m hR c;have Ls:(aj m c).lead.length=k:=he;refine ⟨ρ,a_ (aj m c).lead,fun a ha=>h.rho a (by have:=h.rle;omega),fun b hb=>?_,?_⟩
 ·have:=h.klt b (by omega);omega
 ·have:=h.dne;rw [Ls] at this;exact this
theorem Z2y {C:Nat} {m:List (List Rat)} (hR:bg C m) {k:Nat} (hk:eO m C<k) {ρ κ:Nat->Nat} (hρ:∀ a,a<k->ρ a<m.length) (hκ:∀ b,b<k->κ b<C) :
  aU k (fun a b=>aH m (ρ a) (κ b))=0:=by
 obtain ⟨ρ0,sg,x,h⟩:=nZ m hR C;have LX:(aj m C).lead.length<k:=hk;have hinv:∀ i,∃ i',i<m.length->(i'<m.length/\ρ0 i'=i):=fun i=>by
  by_cases hi:i<m.length
  ·obtain ⟨i',h1,h2⟩:=h.sur i hi;exact ⟨i',fun _=>⟨h1,h2⟩⟩
  ·exact ⟨0,fun h=>absurd h hi⟩
 obtain ⟨inv,hv⟩:∃ inv:Nat->Nat,∀ i,i<m.length->(inv i<m.length/\ρ0 (inv i)=i):=⟨fun i=>Classical.choose (hinv i),fun i hi=>Classical.choose_spec (hinv i) hi⟩;have e:aU k (fun a b=>aH m (ρ a) (κ b))=aU k (fun a b=>if a<k then aQ (aj m C).lead.length (fun l=>(fun a l=>aH m (ρ a) (a_ (aj m C).lead l)) a l*(fun l b=>aH (aj m C).m l (κ b)) l b) else (fun l b=>aH (aj m C).m l (κ b)) 0 b):=by
  refine dP fun a b ha hb=>?_;rw [if_pos ha];obtain ⟨h1,h2⟩:=hv (ρ a) (hρ a ha);have hsp:=h.span (inv (ρ a)) (κ b) h1;rw [h2] at hsp;have hz:(if inv (ρ a)<(aj m C).lead.length then (0:Rat) else aH (aj m C).m (inv (ρ a)) (κ b))=0:=by
   split
   ·rfl
   ·exact h.zero _ _ (by omega) (hκ b hb)
  rw [hz] at hsp;rw [hsp];have:∀ x:Rat,0+x=x:=fun x=>by grind
  rw [this];exact di fun l hl=>by grind
 rw [e];exact u9_ LX _ _ k (oJ _) (fun _=>0) (fun a h1 h2=>by omega)
def fg (k:Nat) (ρ:Nat->Nat):Nat->Nat
 | 0=>0
 | a+1=>fg k ρ a+(k-a)*ρ a
theorem q2_ {k:Nat} {ρ σ:Nat->Nat}:∀ n,(∀ a,a<n->ρ a=σ a)->fg k ρ n=fg k σ n
 | 0,_=>rfl
 | n+1,h=>by
  show fg k ρ n+_=fg k σ n+_;rw [q2_ n (fun a ha=>h a (by omega)),h n (by omega)]
theorem e9_ {k:Nat} {ρ:Nat->Nat} {i:Nat} (h:ρ (i+1)<ρ i):∀ n,i+1<n->n<=k->fg k (fun a=>ρ (bN i a)) n<fg k ρ n
 | 0,h1,_=>by omega
 | n+1,h1,h2=>by
  by_cases e:i+1=n
  ·subst e;show (fg k (fun a=>ρ (bN i a)) i+(k-i)*ρ (bN i i))+(k-(i+1))*ρ (bN i (i+1))<(fg k ρ i+(k-i)*ρ i)+(k-(i+1))*ρ (i+1);have e1:fg k (fun a=>ρ (bN i a)) i=fg k ρ i:=q2_ i fun a ha=>by unfold bN;rw [if_neg (by omega),if_neg (by omega)]
   have e2:bN i i=i+1:=by unfold bN;rw [if_pos rfl]
   have e3:bN i (i+1)=i:=by unfold bN;rw [if_neg (by omega),if_pos rfl]
   rw [e1,e2,e3];obtain ⟨d,hd⟩:∃ d,ρ i=ρ (i+1)+d+1:=⟨ρ i-ρ (i+1)-1,by omega⟩;obtain ⟨q,hq⟩:∃ q,k-(i+1)=q:=⟨_,rfl⟩;have zI:k-i=q+1:=by omega
   rw [hd,hq,zI];generalize ρ (i+1)=y at *
   have a1:(q+1)*y=q*y+y:=Nat.succ_mul _ _;have a2:(q+1)*(y+d+1)=q*(y+d+1)+(y+d+1):=Nat.succ_mul _ _;omega
  ·have ih:=e9_ (k:=k) (ρ:=ρ) (i:=i) h n (by omega) (by omega);show fg k (fun a=>ρ (bN i a)) n+(k-n)*ρ (bN i n)<fg k ρ n+(k-n)*ρ n;have e2:bN i n=n:=by unfold bN;rw [if_neg (by omega),if_neg (by omega)]
   rw [e2];omega
def jy (xss:List (List Int)):Nat:=eO (bJ xss) (bY xss)
theorem c8_ {n:Nat}:∀ {l:List (List Int)},(∀ r∈l,r.length=n/\n<=12/\Z6g r)->gw n l=0
 | [],_=>rfl
 | r::l,h=>by
  obtain ⟨h1,h2,h3⟩:=h r (by simp);unfold gw
  rw [if_neg (by omega),if_pos h1,if_neg (by
   rw [Bool.not_eq_true,List.any_eq_false];intro x hx;have:=(z5_ x).2 (h3 x hx)
   simp [this])]
  exact c8_ fun q hq=>h q (by simp [hq])
theorem w9_ {xss:List (List Int)} {n:Nat} (hl:xss.length<=12) (h:∀ r∈xss,r.length=n/\n<=12/\Z6g r):bw xss=0:=by
 unfold bw;rw [if_neg (by omega)];cases xss with
 | nil=>rfl
 | cons r l =>
  have e:((r::l).headD []).length=n:=(h r (by simp)).1;rw [e];exact c8_ h
theorem Z3j {xss:List (List Int)} {n:Nat} (h:∀ r∈xss,r.length=n) (hne:xss≠[]):bY xss=n:=by
 cases xss with
 | nil=>exact absurd rfl hne
 | cons r l=>exact h r (by simp)
theorem Z29 {xss:List (List Int)} {k:Nat} {R S:List Nat} (hR:R.length=k) (hS:S.length=k) :
  (aj (bJ (bM xss R S)) k).det=aU k (fun a b=>aH (bJ xss) (R.getD a 0) (S.getD b 0)):=by
 have h:=Z5A (m:=bJ (bM xss R S)) (n:=k) (by rw [<- hS];exact P8_ xss R S) (by rw [mA,iN];exact hR);rw [h];refine dP fun a b ha hb=>?_;rw [Z5w (n9 (by omega:a<R.length)) (n9 (by omega:b<S.length)),nO];have e1:R.getD a 0=R[a]:=by rw [oC,n9 (by omega:a<R.length)];rfl
 have e2:S.getD b 0=S[b]:=by rw [oC,n9 (by omega:b<S.length)];rfl
 rw [e1,e2];rfl
theorem L1_ {xss:List (List Int)} (hE:bw xss=0) (R S:List Nat):∀ r∈bM xss R S,∀ a∈r,-1000000000<=a/\a<=1000000000:=by
 intro r hr a ha;unfold bM at hr;obtain ⟨i,-,rfl⟩:=List.mem_map.1 hr;obtain ⟨j,-,rfl⟩:=List.mem_map.1 ha;have h:=y5_ (xss:=xss) (fun r hr=>((ke hE).2 r hr).2.2) i j;obtain ⟨z,h1,h2⟩:=h;rw [nO] at h1;have h3:aW xss i j=z:=congrArg Rat.num h1;have h4:(xss.getD i []).getD j 0=z:=h3;rw [h4];omega
theorem q0_ {xss:List (List Int)} (hE:bw xss=0) {k:Nat} (rq:k<=xss.length) (hk2:k<=bY xss) :
  ∀ R∈bH xss.length k,∀ S∈bH (bY xss) k,∀ c,c<k->h_ 2500 (aj (bJ (bM xss R S)) c).m/\RS 9000 (aj (bJ (bM xss R S)) c).det:=by
 intro R hR S hS c _;obtain ⟨hl,qN⟩:=ke hE;obtain ⟨s1,-,-⟩:=jY (n:=xss.length) hl rq;exact Z2B (P8_ xss R S) (by rw [mA,iN,s1.len R hR];omega) (y5_ (L1_ hE R S)) c
theorem Z4g {xss:List (List Int)} (hE:bw xss=0) {k:Nat} {R S:List Nat} (hR:R.length=k) (hS:S.length=k) (hk:k<=12):bw (bM xss R S)=0:=by
 refine w9_ (n:=k) (by rw [iN];omega) fun r hr=>⟨?_,hk,fun a ha=>L1_ hE R S r hr a ha⟩
 unfold bM at hr;obtain ⟨i,-,rfl⟩:=List.mem_map.1 hr;rw [List.length_map];exact hS
theorem Z2l {xss:List (List Int)} {k:Nat} {R S:List Nat} (hR:R.length=k) (hS:S.length=k):bY (bM xss R S)=(bM xss R S).length:=by
 rw [iN,hR];by_cases h0:k=0
 ·subst h0;obtain rfl:=List.eq_nil_of_length_eq_zero hR;rfl
 ·refine Z3j (fun r hr=>?_) (fun e=>?_)
  ·unfold bM at hr;obtain ⟨i,-,rfl⟩:=List.mem_map.1 hr;rw [List.length_map];exact hS
  ·have:=iN xss R S;rw [e] at this;simp at this;omega
theorem Z2D {xss:List (List Int)} (hE:bw xss=0) {k:Nat} {R S:List Nat} (hR:R.length=k) (hS:S.length=k):jz (bM xss R S)=ea xss k R S:=by
 have hl:(bM xss R S).length=k:=by rw [iN];exact hR
 have h:=Z2C (m:=bM xss R S) (fun r hr=>by
  rw [hl];unfold bM at hr;obtain ⟨i,-,rfl⟩:=List.mem_map.1 hr
  rw [List.length_map];exact hS) (y5_ (L1_ hE R S))
 rw [hl] at h;unfold ea;rw [<- h];rfl
def fG (xss:List (List Int)) (k:Nat) (A B:List (List Nat)) (i j:Nat):List Int :=
 ((A.take i).flatMap fun R=>B.map fun S=>ea xss k R S)++(match A[i]? with | some R=>(B.take j).map fun S=>ea xss k R S | none=>[])
theorem Z0k (xss:List (List Int)) (k:Nat) (A B:List (List Nat)):fG xss k A B 0 0=[]:=by
 unfold fG;cases A[0]? <;> simp
theorem Z0j {xss:List (List Int)} {k:Nat} {A B:List (List Nat)} {i j:Nat} {R S:List Nat} (hR:A[i]?=some R) (hS:B[j]?=some S):fG xss k A B i (j+1)=fG xss k A B i j++[ea xss k R S]:=by
 unfold fG;rw [hR];simp only;rw [oG,hS,List.map_append,List.append_assoc];rfl
theorem Z26 {xss:List (List Int)} {k:Nat} {A B:List (List Nat)} {i:Nat} {R:List Nat} (hR:A[i]?=some R):fG xss k A B i B.length=fG xss k A B (i+1) 0:=by
 unfold fG;rw [hR,List.take_length,oG,hR,List.flatMap_append];have:(match A[i+1]? with | some R=>(B.take 0).map fun S=>ea xss k R S | none=>([]:List Int))=[]:=by cases A[i+1]? <;> rfl
 rw [this,List.append_nil];simp
theorem Z25 {xss:List (List Int)} {k:Nat} {A B:List (List Nat)}:fG xss k A B A.length 0=A.flatMap fun R=>B.map fun S=>ea xss k R S:=by
 unfold fG;rw [List.take_length,oK (oJ _)];simp
theorem Z5Z (w:World) (r q:List Int) (n m:Nat) (hn:n=r.length) (hm:m=q.length) (T T1 T2:TypeId) (hb:∀ x∈r++q,-9223372036854775808<=x/\x<=9223372036854775807) (hl:r.length<=100) (ve:q.length<=100) (C D:Array Value) (hC:C=(r.map (Value.int .i64)).toArray) (hD:D=(q.map (Value.int .i64)).toArray) :
  bQ (((w.alloc (.cells C T)).alloc (.cells D T1)).alloc (.cells #[.slice (some ⟨w.heap.size,0,none⟩) n n,.slice (some ⟨w.heap.size+1,0,none⟩) m m] T2)) (.slice (some ⟨w.heap.size+1+1,0,none⟩) 2 2) [r,q]:=by
 subst hC;subst hn;subst hD;subst hm;have h1:=(au.lit w r T (by unfold maxLen;omega) (fun x hx=>hb x (List.mem_append_left _ hx))).ext (aC.alloc _ (.cells (q.map (Value.int .i64)).toArray T1));have h2:=au.lit (w.alloc (.cells (r.map (Value.int .i64)).toArray T)) q T1 (by unfold maxLen;omega) (fun x hx=>hb x (List.mem_append_right _ hx));rw [World.size_alloc] at h2
 have:=aI.lit (R:=au) (fun _ _ _ _ he h=>au.ext h he) ((w.alloc (.cells (r.map (Value.int .i64)).toArray T)).alloc (.cells (q.map (Value.int .i64)).toArray T1)) [.slice (some ⟨w.heap.size,0,none⟩) r.length r.length,.slice (some ⟨w.heap.size+1,0,none⟩) q.length q.length] [r,q] T2 rfl (by unfold maxLen;simp) (fun j u x hu hx=>by
  match j with
  | 0=>simp only [oP,Option.some.injEq] at hu hx;subst hu;subst hx;exact h1
  | 1=>simp only [oO,oP,Option.some.injEq] at hu hx;subst hu;subst hx;exact h2
  | j+2=>simp at hu)
 simpa using this
theorem nT (w:World) (xs:List Int) (C:Array Value) (T:TypeId) (n:Nat) (hC:C=(xs.map fun x=>Value.string (aD x)).toArray) (hn:n=xs.length) (hl:xs.length<=1000):aI 1 numC (w.alloc (.cells C T)) (.slice (some ⟨w.heap.size,0,none⟩) n n) xs:=by
 subst hC;subst hn;have yd:(xs.map fun x=>[Value.string (aD x)]).flatten=xs.map fun x=>Value.string (aD x):=eI (fun x=>Value.string (aD x)) xs;refine ⟨xs.map fun x=>[.string (aD x)],by simp,by simp,⟨some ⟨w.heap.size,0,none⟩,xs.length,by simp,Nat.le_of_eq (by simp),by unfold maxLen;omega,(fun h=>by cases h),fun _=>⟨w.heap.size,0,rfl,by simp,fun j u hu=>?_⟩⟩,?_⟩
 ·rw [yd] at hu;rw [World.cell?_alloc_new,Nat.zero_add];simpa using hu
 ·intro j u x hu hx;rw [oE,hx] at hu;exact (oL hu).symm
theorem Z68:aD 0=⟨#[48]⟩/\aD 1=⟨#[49]⟩/\aD 4=⟨#[52]⟩/\aD (-4)=⟨#[45,52]⟩:=by decide +kernel
theorem Z6q:dQ [[1,0,-4],[0,1,4]] 2=[1,4,4]:=by decide +kernel
theorem Z6r:Z5d 3 2 [1,4,4]=[4,-4,1]:=by decide +kernel
theorem Z6s:Z6p 3 2 [1,4,4] [1,0,0]=[0,1,4]:=by decide +kernel
theorem Z6t:∃ R,ei 10 3 2 [1,4,4]=some R/\R.length=2/\kH 3 10 R=some [[1,0,-4],[0,1,4]]:=by
 refine ⟨(ei 10 3 2 [1,4,4]).getD [],?_⟩;decide +kernel
theorem Z6u:∃ R,ei 10 4 2 [1,0,0,0,0,1]=some R/\R.length≠2:=by
 refine ⟨(ei 10 4 2 [1,0,0,0,0,1]).getD [],?_⟩;decide +kernel
theorem E3_ {X:List Int} (h:(X.all fun x=>decide (x.natAbs<=1000))=true):iB X:=fun x hx=>by
 have h1:=of_decide_eq_true (List.all_eq_true.1 h x hx);exact Nat.lt_of_le_of_lt h1 (by decide +kernel)
theorem Z2H:eB 3 2 [1,4,4]:=⟨by decide,by decide,by decide +kernel,E3_ (by decide)⟩
theorem Z67:eB 4 2 [1,0,0,0,0,1]:=⟨by decide,by decide,by decide +kernel,E3_ (by decide)⟩
theorem nQ {w:World} {u:Value} {n k:Nat} {X:List Int} (h:cL w u n k X):∃ a c,u=.agg #[.int .i64 n,.int .i64 k,.slice a X.length c]/\aI 1 numC w (.slice a X.length c) X:=by
 obtain ⟨r,rfl,hr⟩:=h;obtain ⟨a,c,rfl,-⟩:=aI.open hr;exact ⟨a,c,rfl,hr⟩
theorem l8_ (w:World) (pj:iV w) (hb:4<w.heap.size) :
  oW 13 #[] w (.bool true):=by
 have HOF:Hid (∀ W v,aC w W->bQ W v [[1,0,-4],[0,1,4]]->Calls prog 15 #[v,.int .i64 3] W fun e w'=>∃ a c,e=.returned (.tuple #[.agg #[.int .i64 3,.int .i64 2,.slice a 3 c],.int .i64 0])/\aI 1 numC w' (.slice a 3 c) [1,4,4]/\aC W w'):=fun W v hW hv=>by
  have hE:bw [[1,0,-4],[0,1,4]]=0:=by decide +kernel
  refine (Z5L [[1,0,-4],[0,1,4]] 3 [1,4,4] v W hv hE (by decide) (by decide) (by decide) (fun W' hW'=>?_)).mono fun e w' ⟨u,h1,h2,h3⟩=>?_
  ·have h9:=Z0m [[1,0,-4],[0,1,4]] 2 v W' (hv.ext hW') hE (by decide) (by decide) (by decide +kernel) (q0_ hE (by decide) (by decide)) (pj.pow.ext (hW.trans hW'));rw [Z6q] at h9;exact h9
  ·obtain ⟨a,c,rfl,h4⟩:=nQ h3;exact ⟨a,c,h1,h4,h2⟩
 have Ka:Hid (∀ W a c,aC w W->aI 1 numC W (.slice a 3 c) [1,4,4]->Calls prog 28 #[.agg #[.int .i64 3,.int .i64 2,.slice a 3 c]] W fun e w'=>∃ a c,e=.returned (.tuple #[.agg #[.int .i64 3,.int .i64 1,.slice a 3 c],.int .i64 0])/\aI 1 numC w' (.slice a 3 c) [4,-4,1]/\aC W w'):=fun W a c hW hv=>by
  refine (Z1l (n:=3) (k:=2) (X:=[1,4,4]) (by decide) Z2H _ W ⟨_,rfl,hv⟩).mono fun e w' ⟨u,h1,h2,h3⟩=>?_;rw [Z6r] at h3;obtain ⟨a,c,rfl,h4⟩:=nQ h3;exact ⟨a,c,h1,h4,h2⟩
 have Dx:Hid (∀ W a c v,aC w W->aI 1 numC W (.slice a 3 c) [1,4,4]->au W v [1,0,0]->Calls prog 25 #[.agg #[.int .i64 3,.int .i64 2,.slice a 3 c],v] W fun e w'=>∃ a c,e=.returned (.tuple #[.agg #[.int .i64 3,.int .i64 1,.slice a 3 c],.int .i64 0])/\aI 1 numC w' (.slice a 3 c) [0,1,4]/\aC W w'):=fun W a c v hW hv hi=>by
  refine (Z3K (n:=3) (k:=2) (X:=[1,4,4]) (r:=[1,0,0]) (by decide) Z2H (by decide) rfl (by decide) _ v W ⟨_,rfl,hv⟩ hi (pj.pow.ext hW)).mono fun e w' ⟨u,h1,h2,h3⟩=>?_;rw [Z6s] at h3;obtain ⟨a,c,rfl,h4⟩:=nQ h3;exact ⟨a,c,h1,h4,h2⟩
 have HLA:Hid (∀ W a c,aC w W->aI 1 numC W (.slice a 3 c) [1,4,4]->Calls prog 36 #[.agg #[.int .i64 3,.int .i64 2,.slice a 3 c]] W fun e w'=>∃ v,e=.returned (.tuple #[v,.int .i64 0])/\aC W w'/\bQ w' v [[1,0,-4],[0,1,4]]):=fun W a c hW hv=>by
  obtain ⟨R,hk,hl,hf⟩:=Z6t;exact Z1V 10 10 (n:=3) (k:=2) (X:=[1,4,4]) (by decide) (by decide) Z2H _ W ⟨_,rfl,hv⟩ R _ (by decide +kernel) hk hl hf (by decide) (pj.ext hW) (oH hb hW.size)
 have CM:Hid (∀ W v,aC w W->aI 1 numC W v [1,0,0,0,0,1]->oW 35 #[.agg #[.int .i64 4,.int .i64 2,v]] W (.tuple #[.bool false,.int .i64 0])):=fun W v hW hv=>by
  obtain ⟨R,hk,hl⟩:=Z6u;have h9:=K4_ 10 (n:=4) (k:=2) (X:=[1,0,0,0,0,1]) (by decide) (by decide) Z67 _ W ⟨_,rfl,hv⟩ R hk (pj.pow.ext hW) (oH hb hW.size);rw [oR hl,oR (show ¬ az [1,0,0,0,0,1]=0 by decide +kernel)] at h9;exact h9
 have vR:Hid (∀ (W:World) (k:Nat) (a:Option Addr) (c:Nat) (v:Value) (X:List Int),aI 1 numC W (.slice a 3 c) X->aI 1 numC W v X->oW 17 #[.agg #[.int .i64 3,.int .i64 k,.slice a 3 c],.agg #[.int .i64 3,.int .i64 k,v]] W (.bool true)):=fun W k a c v X h1 h2=>by
  have h9:=o1_ 3 k X 3 k X _ _ W ⟨_,rfl,h1⟩ ⟨_,rfl,h2⟩;rw [show gQ 3 k X 3 k X=true by unfold gQ;simp] at h9;exact h9
 obtain ⟨t0,t1,t4,t5⟩:=Z68;have HL1:Hid (∀ W:World,aI 1 numC (W.alloc (.cells #[.string ⟨#[49]⟩,.string ⟨#[52]⟩,.string ⟨#[52]⟩] 53)) (.slice (some ⟨W.heap.size,0,none⟩) 3 3) [1,4,4]):=fun W=>nT W [1,4,4] _ _ 3 (by simp [t1,t4]) rfl (by decide);have HL2:Hid (∀ W:World,aI 1 numC (W.alloc (.cells #[.string ⟨#[52]⟩,.string ⟨#[45,52]⟩,.string ⟨#[49]⟩] 53)) (.slice (some ⟨W.heap.size,0,none⟩) 3 3) [4,-4,1]):=fun W=>nT W [4,-4,1] _ _ 3 (by simp [t1,t4,t5]) rfl (by decide);have HL3:Hid (∀ W:World,aI 1 numC (W.alloc (.cells #[.string ⟨#[48]⟩,.string ⟨#[49]⟩,.string ⟨#[52]⟩] 53)) (.slice (some ⟨W.heap.size,0,none⟩) 3 3) [0,1,4]):=fun W=>nT W [0,1,4] _ _ 3 (by simp [t0,t1,t4]) rfl (by decide);have HL4:Hid (∀ W:World,aI 1 numC (W.alloc (.cells #[.string ⟨#[49]⟩,.string ⟨#[48]⟩,.string ⟨#[48]⟩,.string ⟨#[48]⟩,.string ⟨#[48]⟩,.string ⟨#[49]⟩] 53)) (.slice (some ⟨W.heap.size,0,none⟩) 6 6) [1,0,0,0,0,1]):=fun W=>nT W [1,0,0,0,0,1] _ _ 6 (by simp [t0,t1]) rfl (by decide);clear pj hb t0 t1 t4 t5
 go_enter func13,ntmps13
 have hm1:=Z5Z w [1,0,-4] [0,1,4] 3 3 rfl rfl 3 3 27 (by decide) (by decide) (by decide) #[.int .i64 1,.int .i64 0,.int .i64 (-4)] #[.int .i64 0,.int .i64 1,.int .i64 4] rfl rfl;have HM1:=n8 hm1;clear hm1;go_wp2_with fail;refine (HOF _ _ ((aC.alloc _ _).trans ((aC.alloc _ _).trans (aC.alloc _ _))) HM1).mono ?_;rintro e w1 ⟨a1,c1,rfl,vn,hE1⟩;have HE1:=n8 (((aC.alloc w (.cells #[.int .i64 1,.int .i64 0,.int .i64 (-4)] 3)).trans ((aC.alloc _ _).trans (aC.alloc _ _))).trans hE1);have HR1:=n8 vn;clear hE1 vn HM1 HOF;obtain ⟨V1,Ge,vN,hs1,hb1⟩:=eF w1 (.int .i64 0) (.int .i64 0) (.slice none 0 0);have r0:=aN hb1;have f0:=cD hb1;have HB1:=n8 (gV hb1 (.int .i64 3) (.int .i64 2) (.slice a1 3 c1));have HX1:=n8 (dW (B:=w1.heap.size) vN (oJ _) (.int .i64 3) (.int .i64 2) (.slice a1 3 c1));obtain ⟨U1,DM⟩:∃ U,((V1.setCell ⟨w1.heap.size,0,none⟩ (.int .i64 3)).setCell ⟨w1.heap.size,1,none⟩ (.int .i64 2)).setCell ⟨w1.heap.size,2,none⟩ (.slice a1 3 c1)=U:=⟨_,rfl⟩;rw [DM] at HB1 HX1;clear vN hs1 hb1;have D4:Hid (aC w U1):=HE1.trans HX1;have HRU1:=n8 (aI.ext numC.mono' HR1 HX1);have s1:=aN HB1;go_wp2_with fail;clear DM Ge r0 f0;refine (Ka _ _ _ D4 HRU1).mono ?_;rintro e w2 ⟨a2,c2,rfl,hR2,oY⟩;have HE2:Hid (aC w w2):=D4.trans oY;have HB12:=n8 (aO HB1 oY);have HR12:=n8 (aI.ext numC.mono' HRU1 oY);have HR2:=n8 hR2;clear oY hR2 Ka s1;obtain ⟨V2,MG,DK,hs2,hb2⟩:=eF w2 (.int .i64 0) (.int .i64 0) (.slice none 0 0);have r0:=aN hb2;have f0:=cD hb2;have HB2:=n8 (gV hb2 (.int .i64 3) (.int .i64 1) (.slice a2 3 c2));have HX2:=n8 (dW (B:=w2.heap.size) DK (oJ _) (.int .i64 3) (.int .i64 1) (.slice a2 3 c2));obtain ⟨U2,Ei⟩:∃ U,((V2.setCell ⟨w2.heap.size,0,none⟩ (.int .i64 3)).setCell ⟨w2.heap.size,1,none⟩ (.int .i64 1)).setCell ⟨w2.heap.size,2,none⟩ (.slice a2 3 c2)=U:=⟨_,rfl⟩;rw [Ei] at HB2 HX2;clear DK hs2 hb2;have D3:Hid (aC w U2):=HE2.trans HX2;have HRU2:=n8 (aI.ext numC.mono' HR2 HX2);have HB1U:=n8 (aO HB12 HX2);have HR1U:=n8 (aI.ext numC.mono' HR12 HX2);have s1:=aN HB1U;have hx3:=au.lit U2 [1,0,0] 3 (by unfold maxLen;decide) (by decide);have e3:([1,0,0]:List Int).map (Value.int .i64)=[.int .i64 1,.int .i64 0,.int .i64 0]:=rfl;rw [e3] at hx3;have HX3I:=n8 hx3;obtain ⟨L3,hL3⟩:∃ L,U2.alloc (.cells #[.int .i64 1,.int .i64 0,.int .i64 0] 3)=L:=⟨_,rfl⟩;have BG:Hid (aC U2 L3):=by rw [<- hL3];exact aC.alloc _ _
 have Hb:Hid (au L3 (.slice (some ⟨U2.heap.size,0,none⟩) 3 3) [1,0,0]):=by rw [<- hL3];exact HX3I
 have HR1L:=n8 (aI.ext numC.mono' HR1U BG);have II:Hid (aC w L3):=D3.trans BG;clear hx3 e3 HX3I;go_wp2_with fail;clear Ei MG r0 f0;refine (Dx _ _ _ _ II HR1L Hb).mono ?_;rintro e w3 ⟨a3,c3,rfl,DQ,oh⟩;have xd:Hid (aC U2 w3):=BG.trans oh;have HE3:Hid (aC w w3):=D3.trans xd;have HB13:=n8 (aO HB1U xd);have HR13:=n8 (aI.ext numC.mono' HR1U xd);have HB23:=n8 (aO HB2 xd);have HR23:=n8 (aI.ext numC.mono' HRU2 xd);have HR3:=n8 DQ;clear oh DQ Dx s1 hL3;obtain ⟨V3,MF,JW,hs3,hb3⟩:=eF w3 (.int .i64 0) (.int .i64 0) (.slice none 0 0);have r0:=aN hb3;have f0:=cD hb3;have HB3:=n8 (gV hb3 (.int .i64 3) (.int .i64 1) (.slice a3 3 c3));have HX3:=n8 (dW (B:=w3.heap.size) JW (oJ _) (.int .i64 3) (.int .i64 1) (.slice a3 3 c3));obtain ⟨U3,Bn⟩:∃ U,((V3.setCell ⟨w3.heap.size,0,none⟩ (.int .i64 3)).setCell ⟨w3.heap.size,1,none⟩ (.int .i64 1)).setCell ⟨w3.heap.size,2,none⟩ (.slice a3 3 c3)=U:=⟨_,rfl⟩;rw [Bn] at HB3 HX3;clear JW hs3 hb3;have BL:Hid (aC w U3):=HE3.trans HX3;have HRU3:=n8 (aI.ext numC.mono' HR3 HX3);have HB1V:=n8 (aO HB13 HX3);have HR1V:=n8 (aI.ext numC.mono' HR13 HX3);have HB2V:=n8 (aO HB23 HX3);have HR2V:=n8 (aI.ext numC.mono' HR23 HX3);have s1:=aN HB1V;go_wp2_with fail;clear Bn MF r0 f0;refine (HLA _ _ _ BL HR1V).mono ?_;rintro e w4 ⟨v4,rfl,hE4,Bq⟩;have Dd:Hid (aC U3 w4):=hE4;have HR4:=n8 Bq;obtain ⟨a4,c4,rfl,-⟩:=aI.open Bq;obtain ⟨w5,yP⟩:∃ L,w4.alloc (.cells #[.string ⟨#[49]⟩,.string ⟨#[48]⟩,.string ⟨#[48]⟩,.string ⟨#[48]⟩,.string ⟨#[48]⟩,.string ⟨#[49]⟩] 53)=L:=⟨_,rfl⟩;have HL5:=n8 (HL4 w4);have xa:Hid (aC w4 w5):=by rw [<- yP];exact aC.alloc _ _
 rw [yP] at HL5;clear hE4 Bq HLA s1 HL4;go_wp2_with fail;clear yP;refine (CM _ _ (BL.trans (Dd.trans xa)) HL5).mono ?_;rintro e w6 ⟨rfl,og⟩;have Dc:Hid (aC w4 w6):=xa.trans og;have tu:Hid (aC U3 w6):=Dd.trans Dc;have HE6:Hid (aC w w6):=BL.trans tu;have HB16:=n8 (aO HB1V tu);have HB26:=n8 (aO HB2V tu);have HB36:=n8 (aO HB3 tu);have HR16:=n8 (aI.ext numC.mono' HR1V tu);have HR26:=n8 (aI.ext numC.mono' HR2V tu);have HR36:=n8 (aI.ext numC.mono' HRU3 tu);have HR46:=n8 (bQ.ext HR4 Dc);clear og CM;have s1:=aN HB16;obtain ⟨L6,Bv⟩:∃ L,w6.alloc (.cells #[.string ⟨#[49]⟩,.string ⟨#[52]⟩,.string ⟨#[52]⟩] 53)=L:=⟨_,rfl⟩;have HN6:=n8 (HL1 w6);have HX6:Hid (aC w6 L6):=by rw [<- Bv];exact aC.alloc _ _
 rw [Bv] at HN6;go_wp2_with fail;clear Bv;refine (vR _ 2 _ _ _ _ (aI.ext numC.mono' HR16 HX6) HN6).mono ?_;rintro e w7 ⟨rfl,qS⟩;have vu:Hid (aC w6 w7):=HX6.trans qS;have HE7:Hid (aC w w7):=HE6.trans vu;have HB27:=n8 (aO HB26 vu);have HB37:=n8 (aO HB36 vu);have HR27:=n8 (aI.ext numC.mono' HR26 vu);have HR37:=n8 (aI.ext numC.mono' HR36 vu);have HR47:=n8 (bQ.ext HR46 vu);clear qS s1;have s1:=aN HB27;obtain ⟨L7,Bu⟩:∃ L,w7.alloc (.cells #[.string ⟨#[52]⟩,.string ⟨#[45,52]⟩,.string ⟨#[49]⟩] 53)=L:=⟨_,rfl⟩;have HN7:=n8 (HL2 w7);have HX7:Hid (aC w7 L7):=by rw [<- Bu];exact aC.alloc _ _
 rw [Bu] at HN7;go_wp2_with fail;clear Bu;refine (vR _ 1 _ _ _ _ (aI.ext numC.mono' HR27 HX7) HN7).mono ?_;rintro e w8 ⟨rfl,xY⟩;have yn:Hid (aC w7 w8):=HX7.trans xY;have HE8:Hid (aC w w8):=HE7.trans yn;have HB38:=n8 (aO HB37 yn);have HR38:=n8 (aI.ext numC.mono' HR37 yn);have HR48:=n8 (bQ.ext HR47 yn);clear xY s1;have s1:=aN HB38;obtain ⟨L8,Gw⟩:∃ L,w8.alloc (.cells #[.string ⟨#[48]⟩,.string ⟨#[49]⟩,.string ⟨#[52]⟩] 53)=L:=⟨_,rfl⟩;have HN8:=n8 (HL3 w8);have HX8:Hid (aC w8 L8):=by rw [<- Gw];exact aC.alloc _ _
 rw [Gw] at HN8;go_wp2_with fail;clear Gw;refine (vR _ 1 _ _ _ _ (aI.ext numC.mono' HR38 HX8) HN8).mono ?_;rintro e w9 ⟨rfl,xX⟩;have Db:Hid (aC w8 w9):=HX8.trans xX;have HE9:Hid (aC w w9):=HE8.trans Db;have HR49:=n8 (bQ.ext HR48 Db);clear xX s1;have hm9:=Z5Z w9 [1,0,-4] [0,1,4] 3 3 rfl rfl 3 3 27 (by decide) (by decide) (by decide) #[.int .i64 1,.int .i64 0,.int .i64 (-4)] #[.int .i64 0,.int .i64 1,.int .i64 4] rfl rfl;have HQ9:=n8 (x7_ [[1,0,-4],[0,1,4]] [[1,0,-4],[0,1,4]] _ _ _ (HR49.ext ((aC.alloc _ _).trans ((aC.alloc _ _).trans (aC.alloc _ _)))) hm9);have Eh:(([[1,0,-4],[0,1,4]]:List (List Int)) == [[1,0,-4],[0,1,4]])=true:=by decide
 rw [Eh] at HQ9;clear hm9 Eh;go_wp2_with fail;refine HQ9.mono ?_;rintro e Ki ⟨rfl,DV⟩;have IJ:Hid (aC w Ki):=HE9.trans (((aC.alloc w9 (.cells #[.int .i64 1,.int .i64 0,.int .i64 (-4)] 3)).trans ((aC.alloc _ _).trans (aC.alloc _ _))).trans DV);clear DV HQ9;go_wp2_with fail;go_ret;exact ⟨rfl,IJ⟩
def fU (q:List Int) (C:List Nat) (k:Nat):List Int:=(C.take k).map (fun j=>q.getD j 0)++List.replicate (C.length-k) 0
theorem C1_ (q:List Int) (C:List Nat) (k:Nat) (hk:k<=C.length):(fU q C k).length=C.length:=by
 unfold fU;rw [oU,List.length_map,oF,List.length_replicate];omega
theorem k8_ (q:List Int) (C:List Nat):fU q C 0=List.replicate C.length 0:=by simp [fU]
theorem Z0r (q:List Int) (C:List Nat):fU q C C.length=C.map fun j=>q.getD j 0:=by simp [fU]
theorem Z0s {q:List Int} {C:List Nat} {k j:Nat} (h:C[k]?=some j):(fU q C k).set k (q.getD j 0)=fU q C (k+1):=by
 have hk:=(n_.1 h).1;unfold fU;rw [List.set_append_right _ _ (by rw [List.length_map,oF];omega),List.length_map,oF,Nat.min_eq_left (Nat.le_of_lt hk),Nat.sub_self,oG,h,List.map_append];rw [show C.length-k=(C.length-(k+1))+1 by omega,List.replicate_succ];simp
theorem u1_ {L:List Nat} {i x:Nat} (h:L[i]?=some x):(L.map fun x:Nat=>(x:Int))[i]?=some (x:Int):=by rw [oE,h];rfl
theorem k9_ {m:List (List Int)} {R C:List Nat} {i x:Nat} (h:R[i]?=some x):bM m (R.take (i+1)) C=bM m (R.take i) C++[fU (m.getD x []) C C.length]:=by
 unfold bM;rw [oG,h,List.map_append,Z0r];rfl
theorem Z4f (xss:List (List Int)) (R C:List Nat) (N:Nat) (v vr vc:Value) (w:World) (h:bQ w v xss) (hR:au w vr (R.map fun x:Nat=>(x:Int))) (hC:au w vc (C.map fun x:Nat=>(x:Int)))
  (Ej:R.length<=12) (Bx:C.length<=12) (Ja:∀ i∈R,i<xss.length) (Jv:∀ j∈C,j<N) (zG:∀ r∈xss,r.length=N) (hxl:xss.length<=1000) (hN:N<=1000) :
  Calls prog 113 #[v,vr,vc] w fun e w'=>∃ u tags,e=.returned u/\bO gE 27 w' w.heap.size w.heap.size u tags (bM xss R C)/\aC w w':=by
 obtain ⟨i0,hi,pH,hz1,hz2⟩:=info_parts kJ;have HI:=n8 hi;have HZ0:=n8 pH;have HZ1:=n8 hz1;have HZ2:=n8 hz2;clear hi pH hz1 hz2;obtain ⟨a,c,rfl,x1,x2,-,hx⟩:=bT.open h;obtain ⟨ar,cr,rfl,r1,r2,-,-,hr⟩:=hR.open;obtain ⟨ac,cc,rfl,k1,k2,-,-,hc⟩:=hC.open;rw [List.length_map] at r1 k1 |-;rw [List.length_map];have HX:=n8 hx;have HR:=n8 hr;have HC:=n8 hc;have HRL:=n8 Ej;have HCL:=n8 Bx;have HRB:=n8 Ja;have HCB:=n8 Jv;have HRC:=n8 zG;obtain ⟨nr,yW⟩:∃ n,n=R.length:=⟨_,rfl⟩;obtain ⟨nc,EX⟩:∃ n,n=C.length:=⟨_,rfl⟩;have HNR:=n8 yW;have HNC:=n8 EX;rw [<- yW] at r1 HRL |-;rw [<- EX] at k1 HCL |-;unfold maxLen at x2 r2 k2;clear h hR hC hx hr hc Ja Jv zG yW EX Ej Bx
 go_enter func113,ntmps113
 go_wp2_with fail
 go_loopw [8,7] (fun t v wr=>∃ (i:Nat) (tags:List (Nat×Nat)),i<=nr/\t=.int .i64 i/\Hid (aC w wr)/\Hid (bO gE 27 wr w.heap.size w.heap.size v tags (bM xss (R.take i) C))) (fun t _ _=>nr-(intOf t).toNat)
 case atStart=>exact ⟨0,[],by omega,rfl,aC.refl _,bO.nil _ _ _ _ _⟩
 case round =>
  obtain ⟨i,tags,Nr,rfl,HE,HO⟩:=hrel;obtain ⟨wo,rfl⟩:∃ wo:World,wo=wr:=⟨_,rfl⟩;by_cases hlt:i<nr
  ·obtain ⟨y,hy⟩:∃ y,R[i]?=some y:=⟨R[i]'(by rw [<- HNR.out];exact hlt),n9 _⟩;have hyl:=HRB y (oD hy);obtain ⟨br,or_,rfl,-,Ce⟩:=HR (by intro e;have:=congrArg List.length e;rw [List.length_map,<- HNR.out] at this;simp at this;omega);have g1:=Ce i y (u1_ hy);obtain ⟨bx,ox,rfl,-,CP⟩:=HX (by intro e;rw [e] at hyl;simp at hyl);obtain ⟨q,hq⟩:∃ q,xss[y]?=some q:=⟨xss[y],n9 hyl⟩;obtain ⟨vq,Ih,g2⟩:=CP y q hq;obtain ⟨aq,cq,rfl,q1,q2,-,-,Cf⟩:=Ih.open;have hql:q.length=N:=HRC q (oD hq);have Dl:Hid (xss.getD y []=q):=by unfold Hid;rw [oC,hq];rfl
   have HTK:=n8 (k9_ (m:=xss) (C:=C) hy);rw [Dl.out] at HTK;have HG1:=n8 g1;have HG2:=n8 g2;have HQC:=n8 Cf;have HQL:=n8 hql;unfold maxLen at q2;clear Ce CP hq Ih Cf hy g1 g2;rw [hql] at q1;rw [HQL.out] at HG2;clear hql;go_wp2_with (at_make;refine wpList_make_full _ rfl _ _ 27 rfl wo.heap.size 3 i0 (.int .i64 0) 1 underlying27 HI HZ0 HZ1 _ _ _ _ nc rfl rfl rfl rfl ?c1 ?c2 ?c3 ?_)
   any_goals (first | (rw [HZ2.out];have:=HCL.out;omega) | (unfold maxLen;have:=HCL.out;omega) | exact oJ _)
   intro w3 hown oe;rw [J7_] at hown;have HRI:=n8 (eE.ofOwn hown);rw [HNC.out,<- k8_ q C] at HRI;have HE3:=n8 (jm oe);clear hown oe;go_wp2_with fail
   go_loopw [10] (fun t wq=>∃ k:Nat,k<=nc/\t=.int .i64 k/\Hid (aC wo wq)/\Hid (eE wq wo.heap.size (fU q C k))) (fun t _=>nc-(intOf t).toNat)
   case atStart=>exact ⟨0,by omega,rfl,HE3,HRI⟩
   case round =>
    obtain ⟨k,hk,rfl,HE4,HK⟩:=hrel;obtain ⟨wq,rfl⟩:∃ wq:World,wq=wr:=⟨_,rfl⟩;by_cases xL:k<nc
    ·have HXQ:=n8 (aC.trans HE HE4);obtain ⟨z,hz⟩:∃ z,C[k]?=some z:=⟨C[k]'(by rw [<- HNC.out];exact xL),n9 _⟩;have hzl:=HCB z (oD hz);obtain ⟨bc,oc,rfl,-,pd⟩:=HC (by intro e;have:=congrArg List.length e;rw [List.length_map,<- HNC.out] at this;simp at this;omega);have g3:=HXQ.cell (pd k z (u1_ hz));obtain ⟨bq,oq,rfl,-,Cf⟩:=HQC (by intro e;have:=HQL.out;rw [e] at this;simp at this;omega);obtain ⟨p,hp⟩:∃ p,q[z]?=some p:=⟨q[z]'(by rw [HQL.out];exact hzl),n9 _⟩;have g4:=HXQ.cell (Cf z p hp);have g1:=HXQ.cell HG1;have g2:=HXQ.cell HG2;have yZ:(fU q C k).length=nc:=by rw [C1_ q C k (by rw [<- HNC.out];exact hk),HNC.out]
     obtain ⟨old,hold⟩:∃ z,(fU q C k)[k]?=some z:=⟨_,n9 (by rw [yZ];exact xL)⟩;have c0:=HK.cell k old hold;have f0:=HK.free k;have HS:=n8 (Z0s (q:=q) hz);rw [oC,hp] at HS;have HK5:=n8 (HK.set k (by rw [yZ];exact xL) p);rw [show (fU q C k).set k p=fU q C (k+1) from HS.out] at HK5;have HE5:Hid (aC wo (wq.setCell ⟨wo.heap.size,k,none⟩ (.int .i64 p))):=Below.setCell HE4 (oJ _) (.int .i64 p);clear pd hz Cf hp yZ hold;go_wp2_with fail
     go_region
     go_wp2_with fail;go_roundw
     case rel=>exact ⟨k+1,by omega,by go_num,HE5.trans (aC.drew _),HK5.ext (aC.drew _)⟩
     case measure=>simp [intOf];omega
    ·obtain rfl:k=nc:=by omega
     rw [HNC.out] at HK;have HO4:=n8 (HO.ext HE4);have HSZ:Hid (w.heap.size<=wo.heap.size/\wo.heap.size<=wq.heap.size):=⟨HE.size,HE4.size⟩;have HV:Hid (u7.ownBlock≠some wo.heap.size):=fun e=>by have:=(HO.own.lt _ e).2;omega
     have HNN:Hid (wo.heap.size∉tags.map (·.1)):=fun e=>by have:=(HO.fresh e).2;omega
     have HRLn:=n8 (C1_ q C C.length (oJ _));have HLN:Hid ((bM xss (R.take i) C).length<1000000):=by unfold Hid;rw [iN,oF];have:=HRL.out;have:=HNR.out;omega
     go_wp2_with (at_builtin;go_must (refine n6 (K:=gE) (e:=27) underlying23 M8_ wq rfl _ _ rfl w.heap.size w.heap.size u7 tags (bM xss (R.take i) C) (wo.heap.size,k) (fU q C C.length) _ _ rfl HO4 rfl ?d1 ?d2 ?d3 HK ?d4 HV HNN HLN ?d5 ?_))
     case d1=>rw [HRLn.out,<- HNC.out];rfl
     case d2=>rw [HRLn.out,<- HNC.out];exact oJ _
     case d3=>have:=HCL.out;show k<=_;omega
     case d4=>have:=HSZ.out;show w.heap.size<=wo.heap.size;omega
     case d5=>have:=HSZ.out;omega
     intro v' w5 qG hb5 _;rw [<- HTK.out] at qG;have HO5:=n8 qG;have HX5:Hid (aC w w5):=Below.trans (aC.trans HE HE4) hb5;clear qG hb5;go_wp2_with fail;go_roundw
     case rel=>exact ⟨i+1,_,by omega,by go_num,HX5,HO5⟩
     case measure=>simp [intOf];omega
  ·obtain rfl:i=nr:=by omega
   rw [HNR.out,List.take_length] at HO;go_wp2_with fail;go_ret;exact ⟨_,_,rfl,HO,HE⟩
theorem Z3s (m0:List (List Int)) (g0 tm n C:Nat) (oZ:List (Nat×Nat)) (wb w:World) (hM:dR w g0 oZ m0) (hC:cT C m0) (hn:n<=C) (By:C<=1000) (hl:m0.length<=1000) (qb:m0.length<=tm) (qa:tm<=9223372036854775807)
  (hok:Z6H m0 n) (tC:aC wb w) (ht:af wb) (re:∀ b,bZ g0 oZ b->wb.heap.size<=b) :
  Calls prog 84 #[.slice (some ⟨g0,0,none⟩) m0.length tm,.int .i64 n] w fun e w'=>∃ v tags,e=.returned (.tuple #[v,.string (aD (aw m0 n).last),.bool (aw m0 n).odd])/\ck w.heap.size w' v (aw m0 n).lead/\dR w' g0 tags (aw m0 n).m/\(∀ b,bZ g0 tags b↔bZ g0 oZ b)/\aP (bZ g0 oZ) w w':=by
 have HM:=n8 hM;have HC:=n8 hC;have HOK:=n8 hok;have HWB:=n8 tC;have HT:=n8 ht;have HBL:=n8 re;have HSH:=n8 (Y8_ hC);have IC:Hid (∀ c,c<=n->(aw m0 c).lead.length=m0.length->aw m0 n=aw m0 c):=fun c h1 h2=>by
  have:=F8_ hC h2 (n-c);rw [show c+(n-c)=n by omega] at this;exact this
 obtain ⟨L,hL⟩:∃ L,L=m0.length:=⟨_,rfl⟩;rw [<- hL] at hl qb HSH IC |-;have HL:=n8 hL;have HBW:Hid (∀ b,bZ g0 oZ b->b<w.heap.size):=fun b hb=>hM.blt hb;have zi:Hid (dZ w w g0 w.heap.size oZ (aw m0 0).m (.slice none 0 0) (aw m0 0).lead oZ):=⟨hM,ck.nil _ _,fun b=>Iff.rfl,aP.refl _ _,oJ _⟩;have HI1:Hid (aD (aw m0 0).last=⟨#[49]⟩/\(aw m0 0).odd=false):=⟨by show aD 1=_;decide +kernel,rfl⟩;clear hM hC hok tC ht re hL
 go_enter func84,ntmps84
 go_wp2_with fail
 go_loopw [10,7,8,9] (fun t v la od wr=>∃ (c:Nat) (tags:List (Nat×Nat)) (b:ByteArray) (o:Bool),c<=n/\t=.int .i64 c/\la=.string b/\od=.bool o/\Hid (b=aD (aw m0 c).last)/\Hid (o=(aw m0 c).odd)/\Hid (dZ w wr g0 w.heap.size oZ (aw m0 c).m v (aw m0 c).lead tags)) (fun t _ _ _ _=>n-(intOf t).toNat)
 case atStart=>exact ⟨0,oZ,_,_,by omega,rfl,rfl,rfl,HI1.1.symm,HI1.2.symm,zi⟩
 case round =>
  obtain ⟨c,tags,lb,ob,hc,rfl,rfl,rfl,HLB,CD,HR⟩:=hrel;obtain ⟨wo,rfl⟩:∃ wo:World,wo=wr:=⟨_,rfl⟩;clear zi HI1;have KZ:Hid (aC wb wo):=Below.trans HWB (HR.grown.belowE (B:=wb.heap.size) HBL HWB.size);obtain ⟨av,cv,hv,hv1,pt⟩:=HR.lead.form;obtain ⟨k,hk⟩:∃ k,k=(aw m0 c).lead.length:=⟨_,rfl⟩;rw [<- hk] at hv hv1;have HK:=n8 hk;have EZ:k<=L:=by rw [hk];exact (HSH c).2.2
  subst hv;clear hk;by_cases hlt:c<n/\k<L
  ·obtain ⟨vi,hkl⟩:=hlt;have z1:(c:Int)<(n:Int):=by omega
   have z2:(k:Int)<(L:Int):=by omega
   obtain ⟨S,hS⟩:∃ S,S=aw m0 c:=⟨_,rfl⟩;have HS:=n8 hS;rw [<- hS] at HR HK HLB CD;have HRC:Hid (cT C S.m/\S.m.length=L):=by unfold Hid;rw [hS];exact ⟨(HSH c).1,(HSH c).2.1⟩
   have Ez:Hid (∀ b,bZ g0 tags b->b<w.heap.size):=fun b hb=>HBW b ((HR.same b).1 hb);clear hS;go_wp2_with fail
   go_loopw [12] (fun t wr=>∃ a:Nat,t=.int .i64 a/\k<=a/\a<=L/\Hid (∀ j,k<=j->j<a->aW S.m j c=0)/\wr=wo) (fun t _=>L-(intOf t).toNat)
   case atStart=>exact ⟨k,rfl,by omega,EZ,(fun j h1 h2=>by omega),rfl⟩
   case round =>
    obtain ⟨a,rfl,Bd,DJ,HZ,rfl⟩:=hrel;obtain ⟨wo,rfl⟩:∃ wo:World,wo=wr:=⟨_,rfl⟩;by_cases pN:a<L
    ·have LF:(a:Int)<(L:Int):=by omega
     obtain ⟨r,hr⟩:∃ r,S.m[a]?=some r:=⟨_,n9 (by rw [HRC.out.2];exact pN)⟩;obtain ⟨t,ht,c1,h1,h2,hrow,-,-⟩:=HR.mat.get hr;have hrl:=HRC.1 r (oD hr);obtain ⟨x,hx⟩:∃ x,r[c]?=some x:=⟨_,n9 (by omega)⟩;have g2:=hrow.cell c x hx;have Da:Hid (aW S.m a c=x):=by unfold Hid aW;rw [oC (l:=S.m),hr];show r.getD c 0=x;rw [oC,hx];rfl
     rw [hrl] at c1 h1;have JN:c<C:=by omega
     have hz:=iq x;clear hr ht hrow hrl hx;by_cases pE:x=0
     ·have HZ2:Hid (∀ j,k<=j->j<a+1->aW S.m j c=0):=fun j h1 h2=>by
       by_cases e:j=a
       ·rw [e,Da.out,pE]
       ·exact HZ j h1 (by omega)
      rw [oS pE] at hz;have hz2:(aD x).toList=[48]:=beq_iff_eq.1 hz;clear pE;go_wp2_with fail;go_roundw
      case rel=>exact ⟨a+1,by go_num,by omega,by omega,HZ2,by first | rfl | trivial⟩
      case measure=>simp [intOf];omega
     ·have HX0:=n8 pE;rw [oR pE] at hz;have hz2:¬ (aD x).toList=[48]:=fun e=>by rw [e] at hz;exact absurd hz (by decide)
      have yl:((a:Int) == (L:Int))=false:=by rw [beq_eq_false_iff_ne];omega
      clear pE;obtain ⟨bak,sK⟩:∃ b,((a:Int) != (k:Int))=b:=⟨_,rfl⟩;have HBK:=n8 sK;have AR:k<S.m.length:=by rw [HRC.out.2];exact hkl
      have Ad:a<S.m.length:=by rw [HRC.out.2];exact pN
      go_upto_if 54 with fail
      go_cut [9] from 55 to 70 (fun s wx=>∃ EC:Bool,s=.bool EC/\Hid (EC=if a=k then ob else !ob)/\Hid (∃ oo,dZ w wx g0 w.heap.size oZ (if a=k then S.m else bK S.m k a) (.slice av k cv) S.lead oo)/\Hid (wo.heap.size<=wx.heap.size))
      case first =>
       by_cases qy:a=k
       ·have hb:bak=false:=by rw [<- HBK.out,qy];simp
        have HF:Hid (∃ oo,dZ w wo g0 w.heap.size oZ (if a=k then S.m else bK S.m k a) (.slice av k cv) S.lead oo):=by
         unfold Hid;rw [if_pos qy];exact ⟨tags,HR⟩
        have HO2:Hid (ob=if a=k then ob else !ob):=by unfold Hid;rw [if_pos qy]
        clear HBK sK qy;subst hb;go_wp2_with fail;go_meet;exact ⟨ob,rfl,HO2,HF,oJ _⟩
       ·have hb:bak=true:=by rw [<- HBK.out];simp;omega
        have Fu:¬ k=a:=fun e=>qy e.symm;obtain ⟨s,t',hs,qv,e1,e3,f1,f3,i1,i3,i2,i4,hmid,zM⟩:=HR.swap HBW HRC.1 AR Ad;have HF:Hid (∃ oo,dZ w ((wo.setCell ⟨g0,k,none⟩ (.slice (some ⟨t'.1,0,none⟩) C t'.2)).setCell ⟨g0,a,none⟩ (.slice (some ⟨s.1,0,none⟩) C s.2)).drew g0 w.heap.size oZ (if a=k then S.m else bK S.m k a) (.slice av k cv) S.lead oo):=by
         unfold Hid;rw [if_neg qy];exact ⟨_,hmid.ext (aC.drew _)⟩
        have HF2:Hid (∃ oo,dZ w ((wo.setCell ⟨g0,a,none⟩ (.slice (some ⟨s.1,0,none⟩) C s.2)).setCell ⟨g0,k,none⟩ (.slice (some ⟨t'.1,0,none⟩) C t'.2)).drew g0 w.heap.size oZ (if a=k then S.m else bK S.m k a) (.slice av k cv) S.lead oo):=by
         unfold Hid;rw [if_neg qy,Z4D];exact ⟨_,zM.ext (aC.drew _)⟩
        have HO2:Hid ((!ob)=if a=k then ob else !ob):=by unfold Hid;rw [if_neg qy]
        clear qy;have HSZ:∀ a v b u,Hid (wo.heap.size<=((wo.setCell a v).setCell b u).drew.heap.size):=fun a v b u=>by show wo.heap.size<=((wo.setCell a v).setCell b u).heap.size;rw [dX,dX];exact oJ _
        clear HBK sK hmid zM hs qv c1 g2 h1 h2;subst hb;go_wp2_with fail
        go_region
        all_goals
         go_wp2_with fail;go_meet;exact ⟨_,rfl,HO2,by first | exact HF | exact HF2,(HSZ _ _ _ _).out⟩
      case rest =>
       obtain ⟨EC,rfl,HO2,HMM,Ml⟩:=hcut;obtain ⟨oo,rH⟩:=HMM.out;obtain ⟨m1,hm1⟩:∃ m1,m1=if a=k then S.m else bK S.m k a:=⟨_,rfl⟩
       rw [<- hm1] at rH;have HM1:=n8 rH;have qT:Hid (cT C m1/\m1.length=L):=by
        unfold Hid;rw [hm1];split
        ·exact HRC
        ·exact ⟨HRC.1.swp _ _,by rw [iQ];exact HRC.2⟩
       have HE1:Hid (∀ i j,aW m1 i j=aW S.m (aV k a i) j):=fun i j=>by
        rw [hm1];by_cases e:a=k
        ·rw [if_pos e,e,lS]
        ·rw [if_neg e];exact m9_ AR Ad i j
       obtain ⟨pv,BZ⟩:∃ p,p=aW m1 k c:=⟨_,rfl⟩;obtain ⟨d,hd⟩:∃ d,d=S.last:=⟨_,rfl⟩;have qI:Hid (∀ i j,pv*aW m1 i j-aW m1 i c*aW m1 k j=d*((pv*aW m1 i j-aW m1 i c*aW m1 k j) / d)):=fun i j=>by
        have:=HOK.dvd c a vi (by rw [<- HS.out,<- HK.out];exact Bd) (by rw [<- HL.out];exact pN) (by rw [<- HS.out,Da.out];exact HX0) (by rw [<- HS.out,<- HK.out];exact HZ) m1 (by rw [<- HS.out,<- HK.out];exact hm1) i j;rw [<- HS.out,<- HK.out,<- BZ,<- hd] at this;exact this
       have HNX:Hid (aw m0 (c+1)=⟨dx m1 c k pv d L,S.lead++[c],pv,EC⟩):=by
        unfold Hid;show ed c (aw m0 c)=_;rw [<- HS.out];unfold ed;simp only;rw [<- HK.out,K9_ Bd Ad (by rw [Da.out];exact HX0.out) HZ.out,if_neg (by rw [HRC.out.2];omega),<- hm1,<- BZ,<- hd,qT.out.2,HO2.out,CD.out]
       have Ms:Hid (pv=x):=by unfold Hid;rw [BZ,HE1.out,show aV k a k=a by unfold aV;rw [if_pos rfl],Da.out]
       have Mf:Hid (∀ c',c'<=n->∀ i j,(aD (aW (aw m0 c').m i j)).size<=6000):=HOK.sz;have HDD:Hid (d≠0/\(aD d).size<=6000/\lb=aD d):=by
        unfold Hid;rw [hd,HS.out];exact ⟨HOK.ne c hc,HOK.lsz c hc,by rw [HLB.out,HS.out]⟩
       have HSM:Hid (∀ i j,(aD (aW m1 i j)).size<=6000):=fun i j=>by rw [HE1.out,HS.out];exact HOK.sz c hc _ _
       have Mm:Hid (∀ i j,(aD (aW (dx m1 c k pv d L) i j)).size<=6000):=fun i j=>by
        have:=HOK.sz (c+1) (by omega) i j;rw [HNX.out] at this;exact this
       have hlb:=HDD.2.2;subst hlb;obtain ⟨rk,hrk⟩:∃ r,m1[k]?=some r:=⟨_,n9 (by rw [qT.out.2];exact hkl)⟩;obtain ⟨tk,tQ,c2,k1,k2,zE,-,-⟩:=HM1.mat.get hrk;have hrkl:=qT.1 rk (oD hrk);obtain ⟨pp,hpp⟩:∃ p,rk[c]?=some p:=⟨_,n9 (by omega)⟩;have g3:=zE.cell c pp hpp;have vH:pp=pv:=by
        rw [BZ];unfold aW;rw [oC (l:=m1),hrk];show pp=rk.getD c 0;rw [oC,hpp];rfl
       subst vH;have Mt:Hid (aW m1 k c=pp):=BZ.symm;rw [hrkl] at c2 k1;have HRK:Hid (m1[k]?=some rk/\rk.length=C/\oo[k]?=some tk):=⟨hrk,hrkl,tQ⟩;have hDS:=HM1.size;have vD:Hid (∀ b,bZ g0 oo b->b<w.heap.size):=fun b hb=>HBW b ((HM1.same b).1 hb);clear rH hm1 BZ hd hrk tQ zE hrkl hpp HMM HR HOK HE1 Ms Da HX0 HZ Mf hz hz2 g2 c1 h1 h2 yl HBK sK HRC HSH IC CD;go_wp2_with fail;clear c2 g3
       go_loopw [14] (fun tv wr=>∃ i:Nat,tv=.int .i64 i/\i<=L/\Hid (dZ w wr g0 w.heap.size oZ (dx m1 c k pp d i) (.slice av k cv) S.lead oo)) (fun tv _=>L-(intOf tv).toNat)
       case atStart=>exact ⟨0,rfl,by omega,HM1⟩
       case round =>
        obtain ⟨i,rfl,I7,HMI⟩:=hrel;obtain ⟨wi,rfl⟩:∃ wi:World,wi=wr:=⟨_,rfl⟩;by_cases hil:i<L
        ·have q5:(i:Int)<(L:Int):=by omega
         by_cases hik:i=k
         ·have hb:((i:Int) == (k:Int))=true:=by rw [hik];exact beq_self_eq_true _
          have sN:Hid (dZ w wi g0 w.heap.size oZ (dx m1 c k pp d (i+1)) (.slice av k cv) S.lead oo):=by
           unfold Hid;rw [show dx m1 c k pp d (i+1)=dx m1 c k pp d i by show (if i=k then _ else _)=_;rw [if_pos hik]];exact HMI
          clear hik;go_wp2_with fail;go_roundw
          case rel=>exact ⟨i+1,by go_num,by omega,sN⟩
          case measure=>simp [intOf];omega
         ·have hb:((i:Int) == (k:Int))=false:=by rw [beq_eq_false_iff_ne];omega
          have HIK:=n8 hik;obtain ⟨M,sB⟩:∃ M,M=dx m1 c k pp d i:=⟨_,rfl⟩;obtain ⟨ri,qD⟩:∃ r,m1[i]?=some r:=⟨_,n9 (by rw [qT.out.2];exact hil)⟩;have yH:M[i]?=some ri:=by rw [sB,T8_ m1 c k pp d i i (.inl (oJ _))];exact qD
          have Jm:M[k]?=some rk:=by rw [sB,T8_ m1 c k pp d i k (.inr rfl)];exact HRK.1
          have zF:kX m1 i=ri:=by unfold kX;rw [oC,qD];rfl
          have we:kX m1 k=rk:=by unfold kX;rw [oC,HRK.out.1];rfl
          have hril:=qT.1 ri (oD qD);obtain ⟨f,hf⟩:∃ f,ri[c]?=some f:=⟨_,n9 (by omega)⟩;have Bf:aW m1 i c=f:=by unfold aW;rw [oC (l:=m1),qD];show ri.getD c 0=f;rw [oC,hf];rfl
          have rP:Hid (dx m1 c k pp d (i+1)=M.set i (fc pp f d ri rk)):=by
           unfold Hid;show (if i=k then _ else _)=_;rw [if_neg hik,<- sB,Bf,zF,we]
          rw [<- sB] at HMI;obtain ⟨ti,y9,c5,sR,hi2,hrow,-,-⟩:=HMI.mat.get yH;rw [hril] at c5 sR;have g5:=hrow.cell c f hf;have xf:Hid (oo[i]?=some ti):=y9;have HRI:Hid (M[i]?=some ri/\ri.length=C/\M[k]?=some rk/\m1[i]?=some ri/\aW m1 i c=f):=⟨yH,hril,Jm,qD,Bf⟩;have HNL:Hid ((fc pp f d ri rk).length=ri.length):=u8_ (by rw [HRK.out.2.1,hril]);clear sB qD yH Jm zF we hril hf Bf y9 hrow hik;go_wp2_with fail;clear c5 g5
          go_loopw [16] (fun tv wr=>∃ j:Nat,tv=.int .i64 j/\j<=C/\Hid (dZ w wr g0 w.heap.size oZ (M.set i (dM (fc pp f d ri rk) ri j)) (.slice av k cv) S.lead oo)) (fun tv _=>C-(intOf tv).toNat)
          case atStart=>exact ⟨0,rfl,by omega,by unfold Hid;rw [P9_,ni HRI.out.1];exact HMI⟩
          case round =>
           obtain ⟨j,rfl,Lb,qH⟩:=hrel;obtain ⟨wj,rfl⟩:∃ wj:World,wj=wr:=⟨_,rfl⟩;have hP:(M.set i (dM (fc pp f d ri rk) ri j))[i]?=some (dM (fc pp f d ri rk) ri j):=w4_ HRI.1;have Br:(M.set i (dM (fc pp f d ri rk) ri j))[k]?=some rk:=by rw [oV,if_neg HIK.out];exact HRI.2.2.1
           have wL:(dM (fc pp f d ri rk) ri j).length=C:=by rw [I5_ _ _ _ HNL.out];exact HRI.2.1
           obtain ⟨t',qv,c5,-,-,hrow,-⟩:=qH.mat.get hP;obtain rfl:ti=t':=oL (xf.symm.trans qv);obtain ⟨t',vV,c6,-,-,rC,-⟩:=qH.mat.get Br;obtain rfl:tk=t':=oL (HRK.2.2.symm.trans vV);rw [wL] at c5;rw [HRK.out.2.1] at c6;by_cases hj:j<C
           ·have q6:(j:Int)<(C:Int):=by omega
            obtain ⟨u,hu⟩:∃ u,ri[j]?=some u:=⟨_,n9 (by rw [HRI.out.2.1];exact hj)⟩;obtain ⟨y,hy⟩:∃ y,rk[j]?=some y:=⟨_,n9 (by rw [HRK.out.2.1];exact hj)⟩;have hPu:=I4_ HNL (oJ j) hu;have g5:=hrow.cell j u hPu;have g6:=rC.cell j y hy;have EK:aW m1 i j=u:=by unfold aW;rw [oC (l:=m1),HRI.out.2.2.2.1];show ri.getD j 0=u;rw [oC,hu];rfl
            have tO:aW m1 k j=y:=by unfold aW;rw [oC (l:=m1),HRK.out.1];show rk.getD j 0=y;rw [oC,hy];rfl
            have vH:aW m1 k c=pp:=Mt.out;obtain ⟨z,hz⟩:∃ z,z=(pp*u-f*y) / d:=⟨_,rfl⟩;have hdv:=qI i j;rw [EK,tO,HRI.out.2.2.2.2,<- hz] at hdv;have tB:(aD z).size<=6000:=by
             have:=Mm i j;rw [z0_ qT.out.1 c k pp d (by rw [qT.out.2];omega) j L (by rw [qT.out.2];exact oJ _) i,if_pos ⟨hil,HIK⟩,EK,tO,HRI.out.2.2.2.2,<- hz] at this;exact this
            have hs1:=HSM i j;have hs2:=HSM k j;have hs3:=HSM i c;have hs4:=HSM k c;rw [EK] at hs1;rw [tO] at hs2;rw [HRI.out.2.2.2.2] at hs3;rw [vH] at hs4;have CL:Hid (aC wb wj):=Below.trans HWB (qH.grown.belowE (B:=wb.heap.size) HBL HWB.size);have HCB:Hid (∀ W,aC wj W->oW 139 #[.string (aD pp),.string (aD u),.string (aD f),.string (aD y),.string (aD d)] W (.string (aD z))):=fun W hW =>
             m4_ pp u f y d z W hs4 hs1 hs3 hs2 HDD.2.1 HDD.1 hdv tB (HT.ext (CL.trans hW))
            have Ba:(fc pp f d ri rk)[j]?=some z:=by
             unfold fc;rw [List.getElem?_zipWith,hu,hy,hz]
            have s9:Hid (∀ W,aC wj W->dZ w (W.setCell ⟨ti.1,j,none⟩ (.string (aD z))) g0 w.heap.size oZ (M.set i (dM (fc pp f d ri rk) ri (j+1))) (.slice av k cv) S.lead oo):=fun W hW=>by
             have hn:=(qH.ext hW).setEl vD xf hP (j:=j) (by rw [wL];exact hj) z;rw [List.set_set,I6_ HNL.out Ba] at hn;exact hn
            have HFR:Hid (∀ W,aC wj W->W.frozen? ⟨ti.1,j,none⟩=false):=fun W hW=>(hrow.ext hW).free _;clear qv vV hP Br wL hrow rC hu hy hPu EK tO vH hz hdv tB hs1 hs2 hs3 hs4 Ba;go_wp2_with fail;refine iP (fun w'=>w'.cell? ⟨g0,i,none⟩=some (.slice (some ⟨ti.1,0,none⟩) C ti.2)/\w'.cell? ⟨g0,k,none⟩=some (.slice (some ⟨tk.1,0,none⟩) C tk.2)/\w'.cell? ⟨ti.1,j,none⟩=some (.string (aD u))/\w'.cell? ⟨tk.1,j,none⟩=some (.string (aD y))/\Hid (aC wj w')) 24 (by kernel_rfl) ⟨(aC.drew wj).cell c5,(aC.drew wj).cell c6,(aC.drew wj).cell g5,(aC.drew wj).cell g6,aC.drew wj⟩ (fun oX=>?_);refine rA [0,1,2,3,4,5,6,7,8,9,10,11,12,13,14,15,16,17,18,19,20,21] ?_
            iterate 22 ((first|(refine rL (v:=?_) (by rfl) (Or.inl ⟨by rfl,?_⟩) ?_;rotate_left;·((intro w' oz);(try dsimp only at oz);(try go_simp);(try with_reducible rfl)))|(refine rW (v:=?_) (by rfl) (Or.inl ⟨by rfl,?_⟩) ?_;rotate_left;·((intro w');(try go_simp);(try with_reducible rfl))));(try simp only [Act.put,aK,aL,aM]))
            refine rE ?_;refine dO 22 (by kernel_rfl) rfl (fun K hK=>?_);go_simp
            (go_at_call 139;refine (HCB _ oX.2.2.2.2).mono ?_)
            rintro e wz ⟨rfl,om⟩;go_wp2_with fail;refine hK _ _ (⟨om.cell oX.1,om.cell oX.2.1,om.cell oX.2.2.1,om.cell oX.2.2.2.1,aC.trans oX.2.2.2.2 om⟩) (fun oX=>?_);clear hK K
            (try simp only [Act.put,aK,aL,aM])
            refine tW (v:=?_) 23 rfl (Or.inl ⟨by rfl,?_⟩) ?_;rotate_left
            ·((intro w');(try go_simp);(try with_reducible rfl))
            (try simp only [Act.put,aK,aL,aM])
            have z1:=oX.2.2.1;have z4:=HFR _ oX.2.2.2.2;have HM7:=s9 _ oX.2.2.2.2;refine fL 24 (by kernel_rfl) (by kernel_rfl) (by kernel_rfl) rfl (fun K hK=>?_);go_simp;refine hK _ _ ?_;clear hK K
            (try simp only [Act.put,aK,aL,aM])
            go_wp2_with fail;go_roundw
            case rel=>exact ⟨j+1,by go_num,by omega,HM7⟩
            case measure=>simp [intOf];omega
           ·have q6:¬ (j:Int)<(C:Int):=by omega
            have sN:Hid (dZ w wj g0 w.heap.size oZ (dx m1 c k pp d (i+1)) (.slice av k cv) S.lead oo):=by
             have h8:=qH.out;rw [I3_ _ _ _ HNL.out (by rw [HRI.out.2.1];omega)] at h8;unfold Hid;rw [rP.out];exact h8
            clear qv vV hP Br wL hrow rC;go_wp2_with fail;go_roundw
            case rel=>exact ⟨i+1,by go_num,by omega,sN⟩
            case measure=>simp [intOf];omega
        ·have q5:¬ (i:Int)<(L:Int):=by omega
         have HM3:Hid (dZ w wi g0 w.heap.size oZ (dx m1 c k pp d L) (.slice av k cv) S.lead oo):=by
          have AS:i=L:=by omega
          rw [<- AS];exact HMI
         have HB3:=n8 HM3.lead.build;have HLL:Hid (S.lead.length<1000000):=by unfold Hid;rw [<- HK.out];omega
         have hszr:w.heap.size<=wi.heap.size:=HM3.size;go_wp2_with (at_builtin;go_must (refine ee _ rfl _ _ 26 rfl w.heap.size 3 (.int .i64 0) 1 8 underlying26 kJ rfl (by decide) (.slice av k cv) nI S.lead c #[.int .i64 c] 3 rfl HB3 rfl rfl ?e1 (fun _ _=>rfl) HLL (by decide) hszr ?_))
         all_goals first | (simp [Value.oneCell'];done) | skip
         intro v' w5 o8 pc hb5 rB _;have HF:=n8 (HM3.push vD (oJ _) hb5 o8.ownI);clear o8 pc hb5 HB3;go_wp2_with fail;go_roundw
         case rel=>exact ⟨c+1,oo,_,_,by omega,by go_num,rfl,rfl,by rw [HNX.out];exact rfl,by rw [HNX.out];exact rfl,by rw [HNX.out];exact HF⟩
         case measure=>simp [intOf];omega
    ·obtain rfl:a=L:=by omega
     have LF:¬ (a:Int)<(a:Int):=by omega
     have HNX:Hid (aw m0 (c+1)=S):=by
      unfold Hid;show ed c (aw m0 c)=S;rw [<- HS.out];unfold ed;simp only
      rw [E9_ (by rw [<- HK.out,HRC.out.2];exact EZ) (fun j hj=>by
       by_cases Fy:j<a
       ·exact HZ j (by have:=HK.out;omega) Fy
       ·exact z1_ (by rw [HRC.out.2];omega)),if_pos rfl]
     go_wp2_with fail;go_roundw
     case rel=>exact ⟨c+1,tags,_,_,by omega,by go_num,rfl,rfl,by rw [HNX.out];exact HLB,by rw [HNX.out];exact CD,by rw [HNX.out];exact HR⟩
     case measure=>simp [intOf];omega
  ·have yv:Hid (aw m0 n=aw m0 c):=by
    by_cases h1:c<n
    ·exact IC c hc (by rw [<- HK.out];omega)
    ·unfold Hid;rw [show c=n by omega]
   by_cases h1:c<n
   ·have z1:(c:Int)<(n:Int):=by omega
    have z2:¬ (k:Int)<(L:Int):=by omega
    clear hlt h1;go_wp2_with fail;go_ret3;exact ⟨_,by rw [yv.out,<- HLB.out,<- CD.out];rfl,by rw [yv.out];exact ⟨HR.lead,tags,HR.mat,HR.same,HR.grown⟩⟩
   ·have z1:¬ (c:Int)<(n:Int):=by omega
    clear hlt h1;go_wp2_with fail;go_ret3;exact ⟨_,by rw [yv.out,<- HLB.out,<- CD.out];rfl,by rw [yv.out];exact ⟨HR.lead,tags,HR.mat,HR.same,HR.grown⟩⟩
end Go.Proofs.YtjlkkofmojgipaaGreatDoor
