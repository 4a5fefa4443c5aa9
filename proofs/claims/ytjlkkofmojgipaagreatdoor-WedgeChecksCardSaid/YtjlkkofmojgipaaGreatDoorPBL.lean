namespace Go.Proofs.YtjlkkofmojgipaaGreatDoor
set_option linter.unusedVariables false
set_option linter.unusedSimpArgs false
def sk (i a:Nat):Nat:=if a<i then a else a+1
def sumQ:Nat→(Nat→Rat)→Rat
 | 0,_=>0
 | n+1,f=>sumQ n f+f n
def sgnQ (i:Nat):Rat:=if i%2=0 then 1 else -1
def detF:Nat→(Nat→Nat→Rat)→Rat
 | 0,_=>1
 | n+1,M=>sumQ (n+1) fun i=>sgnQ i*M i 0*detF n fun a b=>M (sk i a) (b+1)
theorem sumQ_congr {n:Nat} {f g:Nat→Rat} (h:∀ i,i<n→f i=g i):sumQ n f=sumQ n g:=by
 induction n with
 | zero=>rfl
 | succ n ih=>show sumQ n f+f n=sumQ n g+g n;rw [ih (fun i hi=>h i (by omega)),h n (by omega)]
theorem sumQ_zero (n:Nat):sumQ n (fun _=>0)=0:=by
 induction n with
 | zero=>rfl
 | succ n ih=>show sumQ n _+0=0;rw [ih];grind
theorem sumQ_add (n:Nat) (f g:Nat→Rat):sumQ n (fun i=>f i+g i)=sumQ n f+sumQ n g:=by
 induction n with
 | zero=>show (0:Rat)=0+0;grind
 | succ n ih=>show sumQ n _+(f n+g n)=(sumQ n f+f n)+(sumQ n g+g n);rw [ih];grind
theorem sumQ_mul (n:Nat) (c:Rat) (f:Nat→Rat):sumQ n (fun i=>c*f i)=c*sumQ n f:=by
 induction n with
 | zero=>show (0:Rat)=c*0;grind
 | succ n ih=>show sumQ n _+c*f n=c*(sumQ n f+f n);rw [ih];grind
theorem sumQ_neg (n:Nat) (f:Nat→Rat):sumQ n (fun i=>- f i)=- sumQ n f:=by
 have:=sumQ_mul n (-1) f
 rw [show (-1:Rat)*sumQ n f=- sumQ n f by grind] at this
 rw [← this]
 exact sumQ_congr fun i _=>by grind
theorem sumQ_comm (n m:Nat) (f:Nat→Nat→Rat):sumQ n (fun i=>sumQ m (fun j=>f i j))=sumQ m (fun j=>sumQ n (fun i=>f i j)):=by
 induction n with
 | zero=>show (0:Rat)=sumQ m (fun _=>0);rw [sumQ_zero]
 | succ n ih =>
  show sumQ n _+sumQ m (fun j=>f n j)=sumQ m (fun j=>sumQ n (fun i=>f i j)+f n j)
  rw [ih,sumQ_add]
theorem sumQ_head (n:Nat) (f:Nat→Rat):sumQ (n+1) f=f 0+sumQ n (fun i=>f (i+1)):=by
 induction n with
 | zero=>show (0:Rat)+f 0=f 0+0;grind
 | succ n ih =>
  show sumQ (n+1) f+f (n+1)=f 0+(sumQ n (fun i=>f (i+1))+f (n+1))
  rw [ih];grind
theorem sumQ_one {n k:Nat} {f:Nat→Rat} (hk:k<n) (h:∀ i,i<n→i≠k→f i=0):sumQ n f=f k:=by
 induction n with
 | zero=>omega
 | succ n ih =>
  show sumQ n f+f n=f k
  by_cases e:k=n
  ·subst e
   have:sumQ k f=sumQ k (fun _=>0):=sumQ_congr fun i hi=>h i (by omega) (by omega)
   rw [this,sumQ_zero];grind
  ·rw [ih (by omega) (fun i hi hn=>h i (by omega) hn),h n (by omega) (by omega)];grind
def trI (r i:Nat):Nat:=if i=r then r+1 else if i=r+1 then r else i
theorem sumQ_tr {n r:Nat} (hr:r+1<n) (f:Nat→Rat):sumQ n (fun i=>f (trI r i))=sumQ n f:=by
 induction n with
 | zero=>omega
 | succ n ih =>
  show sumQ n _+f (trI r n)=sumQ n f+f n
  by_cases e:r+1=n
  ·subst e
   show (sumQ r _+f (trI r r))+f (trI r (r+1))=(sumQ r f+f r)+f (r+1)
   have h1:sumQ r (fun i=>f (trI r i))=sumQ r f:=sumQ_congr fun i hi=>by unfold trI;rw [if_neg (by omega),if_neg (by omega)]
   have h2:trI r r=r+1:=by unfold trI;rw [if_pos rfl]
   have h3:trI r (r+1)=r:=by unfold trI;rw [if_neg (by omega),if_pos rfl]
   rw [h1,h2,h3];grind
  ·have h1:trI r n=n:=by unfold trI;rw [if_neg (by omega),if_neg (by omega)]
   rw [ih (by omega),h1]
theorem sgnQ_succ (i:Nat):sgnQ (i+1)=- sgnQ i:=by
 unfold sgnQ
 by_cases h:i%2=0
 ·rw [if_pos h,if_neg (by omega)]
 ·rw [if_neg h,if_pos (by omega)];grind
theorem detF_congr {n:Nat} {M N:Nat→Nat→Rat} (h:∀ a b,a<n→b<n→M a b=N a b):detF n M=detF n N:=by
 induction n generalizing M N with
 | zero=>rfl
 | succ n ih =>
  show sumQ (n+1) _=sumQ (n+1) _
  refine sumQ_congr fun i hi=>?_
  rw [h i 0 hi (by omega),ih (M:=fun a b=>M (sk i a) (b+1)) (N:=fun a b=>N (sk i a) (b+1)) (fun a b ha hb=>h _ _ (by unfold sk;split <;> omega) (by omega))]
def updR (M:Nat→Nat→Rat) (r:Nat) (u:Nat→Rat):Nat→Nat→Rat:=fun a b=>if a=r then u b else M a b
theorem updR_sk_same (M:Nat→Nat→Rat) (r:Nat) (u:Nat→Rat):(fun a b=>updR M r u (sk r a) (b+1))=fun a b=>M (sk r a) (b+1):=by
 funext a b;unfold updR sk;rw [if_neg (by split <;> omega)]
theorem updR_sk {M:Nat→Nat→Rat} {r i:Nat} (u:Nat→Rat) (h:i≠r):(fun a b=>updR M r u (sk i a) (b+1))=updR (fun a b=>M (sk i a) (b+1)) (if r<i then r else r-1) (fun b=>u (b+1)):=by
 funext a b;unfold updR sk
 show (if (if a<i then a else a+1)=r then u (b+1) else M (if a<i then a else a+1) (b+1))=if a=(if r<i then r else r-1) then u (b+1) else M (if a<i then a else a+1) (b+1)
 have:((if a<i then a else a+1)=r)=(a=(if r<i then r else r-1)):=by
  apply propext
  by_cases h1:r<i <;> by_cases h2:a<i <;> simp only [h1,h2,if_true,if_false] <;> omega
 simp only [this]
theorem detF_row {n:Nat} (M:Nat→Nat→Rat) {r:Nat} (hr:r<n) (u v:Nat→Rat) (c:Rat) :
  detF n (updR M r fun b=>u b+c*v b)=detF n (updR M r u)+c*detF n (updR M r v):=by
 induction n generalizing M r u v with
 | zero=>omega
 | succ n ih =>
  show sumQ (n+1) _=sumQ (n+1) _+c*sumQ (n+1) _
  rw [← sumQ_mul,← sumQ_add]
  refine sumQ_congr fun i hi=>?_
  by_cases e:i=r
  ·subst e
   simp only [updR_sk_same]
   have h:∀ u,updR M i u i 0=u 0:=fun u=>by unfold updR;rw [if_pos rfl]
   rw [h,h,h];grind
  ·have h:∀ u,updR M r u i 0=M i 0:=fun u=>by unfold updR;rw [if_neg e]
   rw [h,h,h,updR_sk _ e,updR_sk _ e,updR_sk _ e,ih _ (by split <;> omega)]
   grind
theorem detF_adj {n:Nat} (M:Nat→Nat→Rat) {r:Nat} (hr:r+1<n):detF n (fun a b=>M (trI r a) b)=- detF n M:=by
 induction n generalizing M r with
 | zero=>omega
 | succ n ih =>
  show sumQ (n+1) _=- sumQ (n+1) _
  rw [← sumQ_tr hr,← sumQ_neg]
  refine sumQ_congr fun i hi=>?_
  have hrr:trI r (trI r i)=i:=by unfold trI;repeat' split <;> try omega
  show sgnQ (trI r i)*M (trI r (trI r i)) 0*detF n (fun a b=>M (trI r (sk (trI r i) a)) (b+1))=-(sgnQ i*M i 0*detF n fun a b=>M (sk i a) (b+1))
  rw [hrr]
  by_cases e1:i=r
  ·subst e1
   have h1:trI i i=i+1:=by unfold trI;rw [if_pos rfl]
   rw [h1,sgnQ_succ]
   have:(fun a b=>M (trI i (sk (i+1) a)) (b+1))=fun a b=>M (sk i a) (b+1):=by
    funext a b;congr 1;unfold trI sk;repeat' split <;> try omega
   rw [this];grind
  ·by_cases e2:i=r+1
   ·subst e2
    have h1:trI r (r+1)=r:=by unfold trI;rw [if_neg (by omega),if_pos rfl]
    rw [h1,sgnQ_succ]
    have:(fun a b=>M (trI r (sk r a)) (b+1))=fun a b=>M (sk (r+1) a) (b+1):=by
     funext a b;congr 1;unfold trI sk;repeat' split <;> try omega
    rw [this];grind
   ·have h1:trI r i=i:=by unfold trI;rw [if_neg e1,if_neg e2]
    rw [h1]
    have:(fun a b=>M (trI r (sk i a)) (b+1))=fun a b=>(fun a b=>M (sk i a) (b+1)) (trI (if r<i then r else r-1) a) b:=by
     funext a b;congr 1;unfold trI sk;repeat' split <;> try omega
    rw [this]
    have e:=ih (fun a b=>M (sk i a) (b+1)) (r:=if r<i then r else r-1) (by split <;> omega)
    rw [e]
    grind
def trJ (i j a:Nat):Nat:=if a=i then j else if a=j then i else a
theorem detF_swap {n:Nat} (M:Nat→Nat→Rat) {i j:Nat} (hij:i<j) (hj:j<n):detF n (fun a b=>M (trJ i j a) b)=- detF n M:=by
 obtain ⟨d,rfl⟩:∃ d,j=i+1+d:=⟨j-i-1,by omega⟩
 clear hij
 induction d generalizing M with
 | zero =>
  have:(fun a b=>M (trJ i (i+1+0) a) b)=fun a b=>M (trI i a) b:=by
   funext a b;congr 1
  rw [this];exact detF_adj M hj
 | succ d ih =>
  have:(fun a b=>M (trJ i (i+1+(d+1)) a) b)=fun a b=>(fun a b=>(fun a b=>M (trI (i+1+d) a) b) (trJ i (i+1+d) a) b) (trI (i+1+d) a) b:=by
   funext a b;congr 1;unfold trJ trI;repeat' split <;> try omega
  rw [this]
  have e1:=detF_adj (n:=n) (fun a b=>(fun a b=>M (trI (i+1+d) a) b) (trJ i (i+1+d) a) b) (r:=i+1+d) (by omega)
  have e2:=ih (fun a b=>M (trI (i+1+d) a) b) (by omega)
  have e3:=detF_adj (n:=n) M (r:=i+1+d) (by omega)
  rw [e1,e2,e3]
  grind
theorem rat_neg_self {x:Rat} (h:x=-x):x=0:=by
 have:x+x=0:=by rw [show x+x=x-(-x) by grind,← h];grind
 have:2*x=0:=by grind
 grind
theorem detF_eq {n:Nat} {M:Nat→Nat→Rat} {i j:Nat} (hi:i<n) (hj:j<n) (hne:i≠j) (h:∀ b,b<n→M i b=M j b):detF n M=0:=by
 have key:∀ i j,i<j→j<n→(∀ b,b<n→M i b=M j b)→detF n M=0:=by
  intro i j hij hj h
  have h1:=detF_swap M hij hj
  have h2:detF n (fun a b=>M (trJ i j a) b)=detF n M:=detF_congr fun a b ha hb=>by
   unfold trJ
   split
   ·rename_i e;rw [e,h b hb]
   ·split
    ·rename_i e;rw [e,h b hb]
    ·rfl
  rw [h2] at h1
  exact rat_neg_self h1
 rcases Nat.lt_or_gt_of_ne hne with e | e
 ·exact key i j e hj h
 ·exact key j i e hi (fun b hb=>(h b hb).symm)
theorem detF_zero_row {n:Nat} {M:Nat→Nat→Rat} {r:Nat} (hr:r<n) (h:∀ b,b<n→M r b=0):detF n M=0:=by
 have h1:=detF_row M hr (fun _=>0) (fun _=>0) (-1)
 have h2:detF n (updR M r fun _=>0)=detF n M:=detF_congr fun a b ha hb=>by
  unfold updR;split
  ·rename_i e;rw [e,h b hb]
  ·rfl
 rw [show (fun b:Nat=>(0:Rat)+-1*0)=fun _=>0 by funext b;grind,h2] at h1
 grind
def detG:Nat→(Nat→Nat→Rat)→Rat
 | 0,_=>1
 | n+1,M=>sumQ (n+1) fun j=>sgnQ j*M 0 j*detG n fun a b=>M (a+1) (sk j b)
theorem detG_tr (n:Nat) (M:Nat→Nat→Rat):detG n M=detF n fun a b=>M b a:=by
 induction n generalizing M with
 | zero=>rfl
 | succ n ih =>
  show sumQ (n+1) _=sumQ (n+1) _
  refine sumQ_congr fun i hi=>?_
  rw [ih]
theorem sk_succ_zero (i:Nat):sk (i+1) 0=0:=by unfold sk;rw [if_pos (by omega)]
theorem sk_succ (i a:Nat):sk (i+1) (a+1)=sk i a+1:=by
 unfold sk;by_cases h:a<i
 ·rw [if_pos h,if_pos (by omega)]
 ·rw [if_neg h,if_neg (by omega)]
theorem detF_eq_detG:∀ (n:Nat) (M:Nat→Nat→Rat),detF n M=detG n M∧detF (n+1) M=detG (n+1) M
 | 0,M=>⟨rfl,rfl⟩
 | n+1,M=>by
  refine ⟨(detF_eq_detG n M).2,?_⟩
  have h1:detF (n+2) M=sgnQ 0*M 0 0*detF (n+1) (fun a b=>M (a+1) (b+1))+sumQ (n+1) fun i=>sumQ (n+1) fun j=>sgnQ (i+1)*M (i+1) 0*(sgnQ j*M 0 (j+1)*detF n (fun a b=>M (sk i a+1) (sk j b+1))):=by
   show sumQ (n+2) _=_
   rw [sumQ_head]
   congr 1
   refine sumQ_congr fun i hi=>?_
   rw [sumQ_mul]
   congr 1
   rw [(detF_eq_detG n _).2]
   show sumQ (n+1) _=sumQ (n+1) _
   refine sumQ_congr fun j hj=>?_
   rw [← (detF_eq_detG n _).1]
   simp only [sk_succ,sk_succ_zero]
  have h2:detG (n+2) M=sgnQ 0*M 0 0*detG (n+1) (fun a b=>M (a+1) (b+1))+sumQ (n+1) fun j=>sumQ (n+1) fun i=>sgnQ (j+1)*M 0 (j+1)*(sgnQ i*M (i+1) 0*detF n (fun a b=>M (sk i a+1) (sk j b+1))):=by
   show sumQ (n+2) _=_
   rw [sumQ_head]
   congr 1
   refine sumQ_congr fun j hj=>?_
   rw [sumQ_mul]
   congr 1
   rw [← (detF_eq_detG n _).2]
   show sumQ (n+1) _=sumQ (n+1) _
   refine sumQ_congr fun i hi=>?_
   simp only [sk_succ,sk_succ_zero]
  rw [h1,h2,← (detF_eq_detG n _).2]
  congr 1
  rw [sumQ_comm]
  refine sumQ_congr fun j hj=>sumQ_congr fun i hi=>?_
  rw [sgnQ_succ,sgnQ_succ];grind
theorem detF_tr (n:Nat) (M:Nat→Nat→Rat):detF n (fun a b=>M b a)=detF n M:=by
 rw [← detG_tr,(detF_eq_detG n M).1]
theorem detF_last {n:Nat} {M:Nat→Nat→Rat} (h:∀ a,a<n→M a n=0):detF (n+1) M=M n n*detF n M:=by
 induction n generalizing M with
 | zero=>show (0:Rat)+sgnQ 0*M 0 0*1=M 0 0*1;unfold sgnQ;rw [if_pos rfl];grind
 | succ n ih =>
  show sumQ (n+1) _+sgnQ (n+1)*M (n+1) 0*detF (n+1) (fun a b=>M (sk (n+1) a) (b+1))=M (n+1) (n+1)*sumQ (n+1) _
  have h0:detF (n+1) (fun a b=>M (sk (n+1) a) (b+1))=0:=by
   rw [← detF_tr]
   refine detF_zero_row (r:=n) (by omega) fun b hb=>?_
   show M (sk (n+1) b) (n+1)=0
   exact h _ (by unfold sk;rw [if_pos hb];exact hb)
  rw [h0,← sumQ_mul]
  rw [show ∀ x y:Rat,x+y*0=x by intros;grind]
  refine sumQ_congr fun i hi=>?_
  rw [ih (M:=fun a b=>M (sk i a) (b+1)) (fun a ha=>h _ (by unfold sk;split <;> omega))]
  have:sk i n=n+1:=by unfold sk;rw [if_neg (by omega)]
  simp only [this]
  grind
theorem detF_col {n:Nat} (M:Nat→Nat→Rat) {r:Nat} (hr:r<n) (u v:Nat→Rat) (c:Rat) :
  detF n (fun a b=>if b=r then u a+c*v a else M a b)=detF n (fun a b=>if b=r then u a else M a b)+c*detF n (fun a b=>if b=r then v a else M a b):=by
 have h:=detF_row (fun a b=>M b a) hr u v c
 rw [← detF_tr,← detF_tr n (fun a b=>if b=r then u a else M a b),← detF_tr n (fun a b=>if b=r then v a else M a b)]
 exact h
theorem detF_col_eq {n:Nat} {M:Nat→Nat→Rat} {i j:Nat} (hi:i<n) (hj:j<n) (hne:i≠j) (h:∀ b,b<n→M b i=M b j):detF n M=0:=by
 rw [← detF_tr];exact detF_eq hi hj hne h
theorem detF_col_sum {n:Nat} (M:Nat→Nat→Rat) {r:Nat} (hr:r<n) (u:Nat→Rat) (m:Nat) (f:Nat→Rat) (v:Nat→Nat→Rat) :
  detF n (fun a b=>if b=r then u a+sumQ m (fun l=>f l*v l a) else M a b)=detF n (fun a b=>if b=r then u a else M a b)+sumQ m (fun l=>f l*detF n (fun a b=>if b=r then v l a else M a b)):=by
 induction m with
 | zero =>
  show detF n (fun a b=>if b=r then u a+0 else M a b)=_+(0:Rat)
  rw [show (fun a b=>if b=r then u a+0 else M a b)=fun a b=>if b=r then u a else M a b by funext a b;split <;> grind]
  grind
 | succ m ih =>
  show detF n (fun a b=>if b=r then u a+(sumQ m (fun l=>f l*v l a)+f m*v m a) else M a b)=_+(sumQ m _+f m*_)
  rw [show (fun a b=>if b=r then u a+(sumQ m (fun l=>f l*v l a)+f m*v m a) else M a b)=fun a b=>if b=r then (u a+sumQ m (fun l=>f l*v l a))+f m*v m a else M a b by funext a b;split <;> grind]
  rw [detF_col M hr (fun a=>u a+sumQ m (fun l=>f l*v l a)) (v m) (f m),ih]
  grind
end Go.Proofs.YtjlkkofmojgipaaGreatDoor
