import Derived.Test.YtjlkkofmojgipaaGreatDoorPAN
import Derived.Test.YtjlkkofmojgipaaGreatDoorPBL
import Derived.Test.YtjlkkofmojgipaaGreatDoorPAE
namespace Go.Proofs.YtjlkkofmojgipaaGreatDoor
set_option linter.unusedVariables false
set_option linter.unusedSimpArgs false
theorem rowQ_set {m:List (List Rat)} {k:Nat} (r:List Rat) (hk:k<m.length) (i:Nat):rowQ (m.set k r) i=if i=k then r else rowQ m i:=by
 unfold rowQ
 rw [List.getD_eq_getElem?_getD,List.getElem?_set]
 by_cases h:i=k
 ·subst h;rw [if_pos rfl,if_pos rfl,if_pos hk];rfl
 ·rw [if_neg (by omega),if_neg h,List.getD_eq_getElem?_getD]
theorem divRow_el (r:List Rat) (q:Rat) (x:Nat):(divRow r q).getD x 0=r.getD x 0 / q:=by
 unfold divRow
 rw [List.getD_eq_getElem?_getD,List.getD_eq_getElem?_getD,List.getElem?_map]
 cases r[x]? with
 | none=>show (0:Rat)=0 / q;rw [Rat.div_def,Rat.zero_mul]
 | some y=>rfl
theorem subRow_el {r s:List Rat} (f:Rat) (h:s.length=r.length) (x:Nat):(subRow r s f).getD x 0=r.getD x 0-f*s.getD x 0:=by
 unfold subRow
 rw [List.getD_eq_getElem?_getD,List.getD_eq_getElem?_getD,List.getD_eq_getElem?_getD,List.getElem?_zipWith]
 by_cases hx:x<r.length
 ·rw [List.getElem?_eq_getElem hx,List.getElem?_eq_getElem (by omega:x<s.length)];rfl
 ·rw [List.getElem?_eq_none (by omega:r.length≤x),List.getElem?_eq_none (by omega:s.length≤x)]
  show (0:Rat)=0-f*0
  grind
theorem elimR_el {p:List Rat} {c k i:Nat} {r:List Rat} (h:p.length=r.length) (x:Nat):(elimR p c k i r).getD x 0=if i=k then r.getD x 0 else r.getD x 0-r.getD c 0*p.getD x 0:=by
 unfold elimR
 by_cases hi:i=k
 ·rw [if_pos (.inl hi),if_pos hi]
 ·rw [if_neg hi]
  by_cases h0:r.getD c 0=0
  ·rw [if_pos (.inr h0),h0];grind
  ·rw [if_neg (by simp [hi];exact h0),subRow_el _ h]
theorem elimTo_el {C:Nat} {m:List (List Rat)} {p:List Rat} {c k:Nat} (hR:Rect C m) (hp:p.length=C) (x:Nat) :
  ∀ j,j≤m.length→∀ i,elQ (elimTo m p c k j) i x=if i<j∧i≠k then elQ m i x-elQ m i c*p.getD x 0 else elQ m i x
 | 0,_,i=>by rw [if_neg (by omega)];rfl
 | j+1,hj,i=>by
  have ih:=elimTo_el (c:=c) (k:=k) hR hp x j (by omega) i
  show elQ ((elimTo m p c k j).set j (elimR p c k j (rowQ (elimTo m p c k j) j))) i x=_
  have hrow:rowQ (elimTo m p c k j) j=rowQ m j:=by
   unfold rowQ
   rw [List.getD_eq_getElem?_getD,elimTo_get m p c k j j (Nat.le_refl _),← List.getD_eq_getElem?_getD]
  have hl:p.length=(rowQ m j).length:=by rw [hp];exact (hR.get (get_rowQ (by omega))).symm
  unfold elQ at ih ⊢
  rw [rowQ_set _ (by rw [elimTo_len];omega),hrow]
  by_cases e:i=j
  ·subst e
   rw [if_pos rfl,elimR_el hl]
   by_cases h:i=k
   ·rw [if_pos h,if_neg (by simp [h])]
   ·rw [if_neg h,if_pos ⟨by omega,h⟩]
  ·rw [if_neg e,ih]
   by_cases h:i<j∧i≠k
   ·rw [if_pos h,if_pos ⟨by omega,h.2⟩]
   ·rw [if_neg h,if_neg (by rintro ⟨h1,h2⟩;exact h ⟨by omega,h2⟩)]
theorem trJ_self (r i:Nat):trJ r r i=i:=by unfold trJ;repeat' split <;> try omega
theorem stepR_el {C c:Nat} {s:RedSt} (hR:Rect C s.m) (hk:s.lead.length≤s.m.length) :
  (stepR c s=⟨s.m,s.lead,0⟩∧∀ i,s.lead.length≤i→elQ s.m i c=0) ∨
  ∃ a,s.lead.length≤a∧a<s.m.length∧elQ s.m a c≠0∧(∀ j,s.lead.length≤j→j<a→elQ s.m j c=0) ∧
   (stepR c s).lead=s.lead++[c]∧(stepR c s).m.length=s.m.length∧(stepR c s).det=(if a=s.lead.length then s.det else -s.det)*elQ s.m a c ∧
   ∀ i j,elQ (stepR c s).m i j=if i=s.lead.length then elQ s.m a j / elQ s.m a c else elQ s.m (trJ s.lead.length a i) j-elQ s.m (trJ s.lead.length a i) c*(elQ s.m a j / elQ s.m a c):=by
 obtain ⟨h1,h2,h3,h4⟩:=findP_spec s.m c (s.m.length-s.lead.length) s.lead.length
 unfold stepR
 simp only
 generalize ha:findP s.m c (s.m.length-s.lead.length) s.lead.length=a at *
 by_cases e:a=s.m.length
 ·refine .inl ⟨by rw [if_pos e],fun i hi=>?_⟩
  by_cases hl:i<s.m.length
  ·exact h3 i hi (by omega)
  ·exact elQ_out (by omega)
 ·rw [if_neg e]
  have hal:a<s.m.length:=by omega
  have hne:=h4 (by omega)
  refine .inr ⟨a,h1,hal,hne,h3,rfl,?_⟩
  have hm1:∀ i j,elQ (if a=s.lead.length then s.m else swp s.m s.lead.length a) i j=elQ s.m (trJ s.lead.length a i) j:=by
   intro i j
   by_cases hr:a=s.lead.length
   ·rw [if_pos hr,hr,trJ_self]
   ·rw [if_neg hr,elQ_swp (by omega) hal]
    congr 1;unfold trJ;repeat' split <;> try omega
  have hR1:Rect C (if a=s.lead.length then s.m else swp s.m s.lead.length a):=by
   split
   ·exact hR
   ·exact hR.swp _ _
  have hL1:(if a=s.lead.length then s.m else swp s.m s.lead.length a).length=s.m.length:=by
   split
   ·rfl
   ·exact swp_length _ _ _
  generalize (if a=s.lead.length then s.m else swp s.m s.lead.length a)=m1 at *
  have ht:trJ s.lead.length a s.lead.length=a:=by unfold trJ;rw [if_pos rfl]
  have hf:elQ m1 s.lead.length c=elQ s.m a c:=by rw [hm1,ht]
  rw [hf]
  have hrl:=hR1.get (get_rowQ (m:=m1) (i:=s.lead.length) (by omega))
  have hdl:(divRow (rowQ m1 s.lead.length) (elQ s.m a c)).length=C:=by rw [divRow_len,hrl]
  have hR2:=hR1.set s.lead.length hdl
  refine ⟨by rw [elimTo_len,List.length_set,hL1],rfl,fun i j=>?_⟩
  rw [elimTo_el hR2 hdl j _ (Nat.le_refl _) i]
  have hel:∀ i j,elQ (m1.set s.lead.length (divRow (rowQ m1 s.lead.length) (elQ s.m a c))) i j=if i=s.lead.length then elQ s.m a j / elQ s.m a c else elQ s.m (trJ s.lead.length a i) j:=by
   intro i j
   unfold elQ at hm1 ⊢
   rw [rowQ_set _ (by omega)]
   by_cases hi:i=s.lead.length
   ·rw [if_pos hi,if_pos hi,divRow_el,hm1,ht]
   ·rw [if_neg hi,if_neg hi,hm1]
  have hpd:(divRow (rowQ m1 s.lead.length) (elQ s.m a c)).getD j 0=elQ s.m a j / elQ s.m a c:=by
   rw [divRow_el]
   show elQ m1 s.lead.length j / _=_
   rw [hm1,ht]
  rw [hpd,hel,hel,List.length_set,hL1]
  by_cases hi:i=s.lead.length
  ·rw [if_pos hi,if_neg (by rintro ⟨-,h⟩;exact h hi),if_pos hi]
  ·rw [if_neg hi,if_neg hi,if_neg hi]
   by_cases hil:i<s.m.length
   ·rw [if_pos ⟨hil,hi⟩]
   ·rw [if_neg (by rintro ⟨h,-⟩;exact hil h)]
    have:trJ s.lead.length a i=i:=by unfold trJ;rw [if_neg hi,if_neg (by omega)]
    rw [this,elQ_out (by omega:s.m.length≤i),elQ_out (by omega:s.m.length≤i)]
    grind
structure RowForm (R:Nat) (f:(Nat→Nat→Rat)→Rat):Prop where
 congr:∀ M N:Nat→Nat→Rat,(∀ a b,a<R→M a b=N a b)→f M=f N
 swap:∀ (M:Nat→Nat→Rat) i j,i<j→j<R→f (fun a b=>M (trJ i j a) b)=- f M
 scale:∀ (M:Nat→Nat→Rat) r c,r<R→f (updR M r fun b=>c*M r b)=c*f M
 add:∀ (M:Nat→Nat→Rat) r s c,r<R→s<R→r≠s→f (updR M r fun b=>M r b+c*M s b)=f M
theorem RowForm.zero {R:Nat} {f:(Nat→Nat→Rat)→Rat} (h:RowForm R f) {M:Nat→Nat→Rat} {r:Nat} (hr:r<R) (h0:∀ b,M r b=0):f M=0:=by
 have h1:=h.scale M r 0 hr
 have:updR M r (fun b=>0*M r b)=M:=by
  funext a b;unfold updR;split
  ·rename_i e;rw [e,h0 b];grind
  ·rfl
 rw [this] at h1
 rw [h1];grind
theorem RowForm.elim {R:Nat} {f:(Nat→Nat→Rat)→Rat} (h:RowForm R f) (M:Nat→Nat→Rat) {r:Nat} (hr:r<R) (g:Nat→Rat) :
  ∀ t,t≤R→f (fun a b=>if a<t∧a≠r then M a b+g a*M r b else M a b)=f M
 | 0,_=>by
  congr 1
 | t+1,ht=>by
  by_cases e:t=r
  ·rw [← RowForm.elim h M hr g t (by omega)]
   congr 1;funext a b
   have:(a<t+1∧a≠r)=(a<t∧a≠r):=propext ⟨fun h=>⟨by omega,h.2⟩,fun h=>⟨by omega,h.2⟩⟩
   simp only [this]
  ·rw [← RowForm.elim h M hr g t (by omega)]
   rw [← h.add (fun a b=>if a<t∧a≠r then M a b+g a*M r b else M a b) t r (g t) (by omega) hr e]
   congr 1;funext a b
   by_cases ha:a=t
   ·subst ha
    simp [updR,e]
   ·have:(a<t+1∧a≠r)=(a<t∧a≠r):=propext ⟨fun h=>⟨by omega,h.2⟩,fun h=>⟨by omega,h.2⟩⟩
    simp only [updR,ha,if_false,this]
theorem RowForm.pivot {R:Nat} {f:(Nat→Nat→Rat)→Rat} (h:RowForm R f) {M N:Nat→Nat→Rat} {r a c:Nat} (hr:r≤a) (ha:a<R) (hne:M a c≠0)
  (hN:∀ i j,N i j=if i=r then M a j / M a c else M (trJ r a i) j-M (trJ r a i) c*(M a j / M a c)):f M=(if a=r then 1 else -1)*M a c*f N:=by
 obtain ⟨q,hq⟩:∃ q,q=M a c:=⟨_,rfl⟩
 have ht:trJ r a r=a:=by unfold trJ;rw [if_pos rfl]
 obtain ⟨M1,hM1⟩:∃ M1:Nat→Nat→Rat,M1=fun i j=>M (trJ r a i) j:=⟨_,rfl⟩
 obtain ⟨M2,hM2⟩:∃ M2:Nat→Nat→Rat,M2=updR M1 r fun b=>q⁻¹*M1 r b:=⟨_,rfl⟩
 have h1:f M=(if a=r then 1 else -1)*f M1:=by
  by_cases e:a=r
  ·subst e
   rw [if_pos rfl,hM1]
   have:(fun i j=>M (trJ a a i) j)=M:=by funext i j;rw [trJ_self]
   rw [this];grind
  ·rw [if_neg e,hM1,h.swap M r a (by omega) ha];grind
 have h2:f M2=q⁻¹*f M1:=by rw [hM2];exact h.scale _ _ _ (by omega)
 have h3:=h.elim M2 (r:=r) (by omega) (fun i=>- M2 i c) R (Nat.le_refl _)
 have h4:f N=f M2:=by
  rw [← h3]
  refine h.congr _ _ fun i j hi=>?_
  have e2:∀ j,M2 r j=M a j / q:=fun j=>by rw [hM2];unfold updR;rw [if_pos rfl,hM1];show q⁻¹*M (trJ r a r) j=_;rw [ht,Rat.div_def];grind
  rw [hN]
  by_cases e:i=r
  ·subst e
   rw [if_pos rfl,if_neg (by rintro ⟨-,h⟩;exact h rfl),e2,hq]
  ·have e3:∀ j,M2 i j=M (trJ r a i) j:=fun j=>by rw [hM2];unfold updR;rw [if_neg e,hM1]
   rw [if_neg e,if_pos ⟨hi,e⟩,e3,e3,e2,hq];grind
 rw [h4,h2,h1,← hq]
 have:q*q⁻¹=1:=Rat.mul_inv_cancel q (by rw [hq];exact hne)
 grind
def kapQ (l:List Nat) (j:Nat):Nat:=l.getD j 0
theorem kapQ_old {l:List Nat} {c j:Nat} (h:j<l.length):kapQ (l++[c]) j=kapQ l j:=by
 unfold kapQ;rw [List.getD_eq_getElem?_getD,List.getElem?_append_left h,← List.getD_eq_getElem?_getD]
theorem kapQ_new (l:List Nat) (c:Nat):kapQ (l++[c]) l.length=c:=by
 unfold kapQ;rw [List.getD_eq_getElem?_getD];simp
structure RedI (R:Nat) (A:Nat→Nat→Rat) (c:Nat) (s:RedSt) (ρ:Nat→Nat) (sg x:Rat):Prop where
 len:s.m.length=R
 rle:s.lead.length≤R
 rlc:s.lead.length≤c
 klt:∀ l,l<s.lead.length→kapQ s.lead l<c
 full:s.lead.length=c→∀ l,l<c→kapQ s.lead l=l
 unit:∀ i l,l<s.lead.length→elQ s.m i (kapQ s.lead l)=if i=l then 1 else 0
 zero:∀ i j,s.lead.length≤i→j<c→elQ s.m i j=0
 rho:∀ i,i<R→ρ i<R
 sur:∀ i,i<R→∃ i',i'<R∧ρ i'=i
 span:∀ i j,i<R→A (ρ i) j=(if i<s.lead.length then 0 else elQ s.m i j)+sumQ s.lead.length fun l=>elQ s.m l j*A (ρ i) (kapQ s.lead l)
 dne:detF s.lead.length (fun a b=>A (ρ a) (kapQ s.lead b))≠0
 form:∀ f,RowForm R f→f A=x*f (elQ s.m)
 det:s.det=if s.lead.length=c then x else 0
 sgn:sg=1∨sg=-1
 sgf:∀ f,RowForm R f→f (fun a b=>A (ρ a) b)=sg*f A
 xD:x=sg*detF s.lead.length fun a b=>A (ρ a) (kapQ s.lead b)
theorem RedI.big {R:Nat} {A:Nat→Nat→Rat} {c:Nat} {s:RedSt} {ρ:Nat→Nat} {sg x:Rat} (h:RedI R A c s ρ sg x) {i j:Nat} (hi:s.lead.length≤i) (hiR:i<R) :
  detF (s.lead.length+1) (fun a b=>A (if a<s.lead.length then ρ a else ρ i) (if b<s.lead.length then kapQ s.lead b else j))=elQ s.m i j*detF s.lead.length fun a b=>A (ρ a) (kapQ s.lead b):=by
 generalize hr:s.lead.length=r at *
 have e:detF (r+1) (fun a b=>A (if a<r then ρ a else ρ i) (if b<r then kapQ s.lead b else j))=detF (r+1) (fun a b=>if b=r then (if a<r then 0 else elQ s.m i j)+sumQ r (fun l=>elQ s.m l j*A (if a<r then ρ a else ρ i) (kapQ s.lead l)) else A (if a<r then ρ a else ρ i) (kapQ s.lead b)):=by
  refine detF_congr fun a b ha hb=>?_
  by_cases e:b=r
  ·subst e
   rw [if_neg (Nat.lt_irrefl b),if_pos rfl]
   by_cases e2:a<b
   ·rw [if_pos e2,if_pos e2]
    have:=h.span a j (by have:=h.rle;omega)
    rw [hr,if_pos e2] at this
    exact this
   ·rw [if_neg e2,if_neg e2]
    have:=h.span i j hiR
    rw [hr,if_neg (by omega)] at this
    exact this
  ·rw [if_pos (show b<r by omega),if_neg e]
 rw [e,detF_col_sum _ (by omega)]
 have h0:sumQ r (fun l=>elQ s.m l j*detF (r+1) (fun a b=>if b=r then A (if a<r then ρ a else ρ i) (kapQ s.lead l) else A (if a<r then ρ a else ρ i) (kapQ s.lead b)))=0:=by
  rw [← sumQ_zero r]
  refine sumQ_congr fun l hl=>?_
  rw [detF_col_eq (i:=l) (j:=r) (by omega) (by omega) (by omega) (fun b hb=>by rw [if_neg (by omega),if_pos rfl])]
  grind
 rw [h0,detF_last (fun a ha=>by rw [if_pos rfl,if_pos ha])]
 rw [if_pos rfl,if_neg (by omega)]
 have:detF r (fun a b=>if b=r then (if a<r then 0 else elQ s.m i j) else A (if a<r then ρ a else ρ i) (kapQ s.lead b))=detF r fun a b=>A (ρ a) (kapQ s.lead b):=detF_congr fun a b ha hb=>by rw [if_neg (by omega),if_pos ha]
 rw [this];grind
theorem RedI.small {R:Nat} {A:Nat→Nat→Rat} {c:Nat} {s:RedSt} {ρ:Nat→Nat} {sg x:Rat} (h:RedI R A c s ρ sg x) {i j:Nat} (hi:i<s.lead.length) :
  detF s.lead.length (fun a b=>A (ρ a) (if b=i then j else kapQ s.lead b))=elQ s.m i j*detF s.lead.length fun a b=>A (ρ a) (kapQ s.lead b):=by
 generalize hr:s.lead.length=r at *
 have e:detF r (fun a b=>A (ρ a) (if b=i then j else kapQ s.lead b))=detF r (fun a b=>if b=i then (0:Rat)+sumQ r (fun l=>elQ s.m l j*A (ρ a) (kapQ s.lead l)) else A (ρ a) (kapQ s.lead b)):=by
  refine detF_congr fun a b ha hb=>?_
  by_cases e:b=i
  ·rw [if_pos e,if_pos e]
   have:=h.span a j (by have:=h.rle;omega)
   rw [hr,if_pos ha] at this
   exact this
  ·rw [if_neg e,if_neg e]
 rw [e,detF_col_sum _ hi (fun _=>0)]
 have h0:detF r (fun a b=>if b=i then (0:Rat) else A (ρ a) (kapQ s.lead b))=0:=by
  rw [← detF_tr]
  exact detF_zero_row hi (fun b hb=>by rw [if_pos rfl])
 rw [h0,sumQ_one hi (fun l hl hne=>by
  rw [detF_col_eq (i:=l) (j:=i) hl hi hne (fun b hb=>by rw [if_neg hne,if_pos rfl])];grind)]
 have:detF r (fun a b=>if b=i then A (ρ a) (kapQ s.lead i) else A (ρ a) (kapQ s.lead b))=detF r fun a b=>A (ρ a) (kapQ s.lead b):=detF_congr fun a b ha hb=>by
  split
  ·rename_i e;rw [e]
  ·rfl
 rw [this];grind
theorem redI_zero {C:Nat} (m:List (List Rat)) (hR:Rect C m):RedI m.length (elQ m) 0 (redTo m 0) (fun i=>i) 1 1 where
 len:=rfl
 rle:=Nat.zero_le _
 rlc:=Nat.le_refl _
 klt:=fun l hl=>by exact absurd hl (by show ¬ l<0;omega)
 full:=fun _ l hl=>by omega
 unit:=fun i l hl=>by exact absurd hl (by show ¬ l<0;omega)
 zero:=fun i j _ hj=>by omega
 rho:=fun i hi=>hi
 sur:=fun i hi=>⟨i,hi,rfl⟩
 span:=fun i j hi=>by
  show elQ m i j=(if i<0 then 0 else elQ m i j)+(0:Rat)
  rw [if_neg (by omega)];grind
 dne:=by show (1:Rat)≠0;decide
 form:=fun f hf=>by show f (elQ m)=1*f (elQ m);grind
 det:=rfl
 sgn:=.inl rfl
 sgf:=fun f hf=>by grind
 xD:=by show (1:Rat)=1*1;grind
theorem redI_step {C c:Nat} {R:Nat} {A:Nat→Nat→Rat} {s:RedSt} {ρ:Nat→Nat} {sg x:Rat} (h:RedI R A c s ρ sg x) (hR:Rect C s.m) :
  ∃ ρ' sg' x',RedI R A (c+1) (stepR c s) ρ' sg' x':=by
 rcases stepR_el (c:=c) hR (by rw [h.len];exact h.rle) with ⟨e,hz⟩ | ⟨a,ha1,ha2,hne,hfirst,hlead,hlen,hdet,hel⟩
 ·rw [e]
  refine ⟨ρ,sg,x,h.len,h.rle,Nat.le_succ_of_le h.rlc,fun l hl=>Nat.lt_succ_of_lt (h.klt l hl),fun hc=>?_,h.unit,fun i j hi hj=>?_,h.rho,h.sur,h.span,h.dne,h.form,?_,h.sgn,h.sgf,h.xD⟩
  ·have:=h.rlc
   have hc':s.lead.length=c+1:=hc
   omega
  ·by_cases e:j=c
   ·rw [e];exact hz i hi
   ·exact h.zero i j hi (by omega)
  ·show (0:Rat)=if s.lead.length=c+1 then x else 0
   rw [if_neg (by have:=h.rlc;omega)]
 ·rw [h.len] at ha2
  have hL:(stepR c s).lead.length=s.lead.length+1:=by rw [hlead];simp
  have hkold:∀ l,l<s.lead.length→kapQ (stepR c s).lead l=kapQ s.lead l:=fun l hl=>by rw [hlead];exact kapQ_old hl
  have hknew:kapQ (stepR c s).lead s.lead.length=c:=by rw [hlead];exact kapQ_new _ _
  have hbig:=h.big (i:=a) (j:=c) ha1 ha2
  generalize hr:s.lead.length=r at *
  have htr:trJ r a r=a:=by unfold trJ;rw [if_pos rfl]
  have htl:∀ i,i<r→trJ r a i=i:=fun i hi=>by unfold trJ;rw [if_neg (by omega),if_neg (by omega)]
  have htg:∀ i,r≤i→r≤trJ r a i:=fun i hi=>by unfold trJ;repeat' split <;> try omega
  have htR:∀ i,i<R→trJ r a i<R:=fun i hi=>by unfold trJ;repeat' split <;> try omega
  have htt:∀ i,trJ r a (trJ r a i)=i:=fun i=>by unfold trJ;repeat' split <;> try omega
  have hdiv:elQ s.m a c / elQ s.m a c=1:=by rw [Rat.div_def];exact Rat.mul_inv_cancel _ hne
  have hak:∀ l,l<r→elQ s.m a (kapQ s.lead l)=0:=fun l hl=>by rw [h.unit a l (by omega),if_neg (by omega)]
  have hunit:∀ i l,l<r+1→elQ (stepR c s).m i (kapQ (stepR c s).lead l)=if i=l then 1 else 0:=by
   intro i l hl
   by_cases e:l=r
   ·subst e
    rw [hknew,hel]
    by_cases e2:i=l
    ·rw [if_pos e2,if_pos e2,hdiv]
    ·rw [if_neg e2,if_neg e2,hdiv];grind
   ·rw [hkold l (by omega),hel,hak l (by omega)]
    by_cases e2:i=r
    ·rw [if_pos e2,if_neg (by omega),Rat.div_def,Rat.zero_mul]
    ·rw [if_neg e2,h.unit _ l (by omega),Rat.div_def,Rat.zero_mul]
     by_cases e3:i=l
     ·rw [if_pos e3,if_pos (by rw [e3];exact htl l (by omega))];grind
     ·rw [if_neg e3,if_neg (by intro e4;have h5:=htt i;rw [e4,htl l (by omega)] at h5;exact e3 h5.symm)];grind
  have hD:detF (r+1) (fun i b=>A (ρ (trJ r a i)) (kapQ (stepR c s).lead b))=elQ s.m a c*detF r fun a b=>A (ρ a) (kapQ s.lead b):=by
   rw [← hbig]
   refine detF_congr fun i b hi hb=>?_
   have e1:ρ (trJ r a i)=if i<r then ρ i else ρ a:=by
    by_cases e:i<r
    ·rw [if_pos e,htl i e]
    ·rw [if_neg e,show i=r by omega,htr]
   have e2:kapQ (stepR c s).lead b=if b<r then kapQ s.lead b else c:=by
    by_cases e:b<r
    ·rw [if_pos e,hkold b e]
    ·rw [if_neg e,show b=r by omega,hknew]
   rw [e1,e2]
  refine ⟨fun i=>ρ (trJ r a i),(if a=r then 1 else -1)*sg,x*((if a=r then 1 else -1)*elQ s.m a c),by rw [hlen,h.len],by rw [hL];omega,by rw [hL];have:=h.rlc;omega,?_,?_,?_,?_,?_,?_,?_,?_,?_,?_,?_,?_,?_⟩
  ·intro l hl
   rw [hL] at hl
   by_cases e:l=r
   ·rw [e,hknew];omega
   ·rw [hkold l (by omega)];have:=h.klt l (by omega);omega
  ·intro hc l hl
   rw [hL] at hc
   by_cases e:l=r
   ·rw [e,hknew];omega
   ·rw [hkold l (by omega)];exact h.full (by omega) l (by omega)
  ·rw [hL];exact hunit
  ·intro i j hi hj
   rw [hL] at hi
   by_cases e:j=c
   ·have:=hunit i r (by omega)
    rw [hknew,if_neg (by omega)] at this
    rw [e];exact this
   ·rw [hel,if_neg (by omega),h.zero (trJ r a i) j (by have:=htg i (by omega);omega) (by omega),h.zero a j (by omega) (by omega),Rat.div_def,Rat.zero_mul];grind
  ·intro i hi;exact h.rho _ (htR i hi)
  ·intro i hi
   obtain ⟨i',h1,h2⟩:=h.sur i hi
   exact ⟨trJ r a i',htR i' h1,by rw [htt];exact h2⟩
  ·intro i j hi
   have h1:=h.span (trJ r a i) j (htR i hi)
   have h2:=h.span (trJ r a i) c (htR i hi)
   rw [hL]
   show A (ρ (trJ r a i)) j=_+(sumQ r (fun l=>elQ (stepR c s).m l j*A (ρ (trJ r a i)) (kapQ (stepR c s).lead l))+elQ (stepR c s).m r j*A (ρ (trJ r a i)) (kapQ (stepR c s).lead r))
   rw [hknew]
   rw [hr] at h1 h2
   have e1:sumQ r (fun l=>elQ (stepR c s).m l j*A (ρ (trJ r a i)) (kapQ (stepR c s).lead l))=sumQ r (fun l=>elQ s.m l j*A (ρ (trJ r a i)) (kapQ s.lead l))+- (elQ s.m a j / elQ s.m a c)*sumQ r (fun l=>elQ s.m l c*A (ρ (trJ r a i)) (kapQ s.lead l)):=by
    rw [← sumQ_mul,← sumQ_add]
    refine sumQ_congr fun l hl=>?_
    rw [hkold l hl,hel,if_neg (by omega),htl l hl];grind
   rw [e1,hel r j,if_pos rfl,hel i j]
   have hlt:(trJ r a i<r)=(i<r):=by
    apply propext;constructor
    ·intro h;by_cases e:i<r
     ·exact e
     ·have:=htg i (by omega);omega
    ·intro h;rw [htl i h];exact h
   simp only [hlt] at h1 h2
   by_cases e:i<r
   ·rw [if_pos e] at h1 h2
    rw [if_pos (by omega),h1,h2];grind
   ·rw [if_neg e] at h1 h2
    by_cases e2:i=r
    ·rw [e2,htr] at h1 h2
     rw [if_pos (by omega),e2,htr,h1,h2]
     have:elQ s.m a j / elQ s.m a c*elQ s.m a c=elQ s.m a j:=by rw [Rat.div_def,Rat.mul_assoc,Rat.inv_mul_cancel _ hne,Rat.mul_one]
     grind
    ·rw [if_neg (by omega),if_neg e2,h1,h2];grind
  ·rw [hL,hD]
   intro h0
   rcases Rat.mul_eq_zero.1 h0 with h0 | h0
   ·exact hne h0
   ·exact h.dne (by rw [hr];exact h0)
  ·intro f hf
   rw [h.form f hf,hf.pivot ha1 ha2 hne hel];grind
  ·rw [hdet,h.det,hL,hr]
   by_cases e:r=c
   ·rw [if_pos e,if_pos (show r+1=c+1 by omega)];split <;> grind
   ·rw [if_neg e,if_neg (show ¬ r+1=c+1 by omega)];split <;> grind
  ·rcases h.sgn with e | e <;> rw [e] <;> split <;> first | (left;grind) | (right;grind)
  ·intro f hf
   by_cases e:a=r
   ·rw [if_pos e,e]
    have:(fun i b=>A (ρ (trJ r r i)) b)=fun i b=>A (ρ i) b:=by funext i b;rw [trJ_self]
    rw [this,h.sgf f hf];grind
   ·rw [if_neg e,hf.swap (fun i b=>A (ρ i) b) r a (by omega) ha2,h.sgf f hf];grind
  ·rw [hL,hD,h.xD,hr];grind
theorem redI_all {C:Nat} (m:List (List Rat)) (hR:Rect C m):∀ c,∃ ρ sg x,RedI m.length (elQ m) c (redTo m c) ρ sg x
 | 0=>⟨_,_,_,redI_zero m hR⟩
 | c+1=>by
  obtain ⟨ρ,sg,x,h⟩:=redI_all m hR c
  exact redI_step h (redTo_shape hR c).1
end Go.Proofs.YtjlkkofmojgipaaGreatDoor
namespace Go.Proofs.YtjlkkofmojgipaaGreatDoor
set_option linter.unusedVariables false
set_option linter.unusedSimpArgs false
open Go.RowKit
def IntLe (K:Nat) (x:Rat):Prop:=∃ z:Int,x=(z:Rat)∧z.natAbs≤K
theorem IntLe.mono {K L:Nat} {x:Rat} (h:IntLe K x) (hk:K≤L):IntLe L x:=by
 obtain ⟨z,h1,h2⟩:=h;exact ⟨z,h1,by omega⟩
theorem IntLe.zero (K:Nat):IntLe K 0:=⟨0,by simp,by simp⟩
theorem IntLe.add {K L:Nat} {x y:Rat} (h:IntLe K x) (k:IntLe L y):IntLe (K+L) (x+y):=by
 obtain ⟨z,rfl,h2⟩:=h;obtain ⟨z',rfl,k2⟩:=k
 exact ⟨z+z',by rw [Rat.intCast_add],by omega⟩
theorem IntLe.mul {K L:Nat} {x y:Rat} (h:IntLe K x) (k:IntLe L y):IntLe (K*L) (x*y):=by
 obtain ⟨z,rfl,h2⟩:=h;obtain ⟨z',rfl,k2⟩:=k
 exact ⟨z*z',by rw [Rat.intCast_mul],by rw [Int.natAbs_mul];exact Nat.mul_le_mul h2 k2⟩
theorem IntLe.sgn (i:Nat):IntLe 1 (sgnQ i):=by
 unfold sgnQ;split
 ·exact ⟨1,by simp,by simp⟩
 ·exact ⟨-1,by simp,by simp⟩
theorem IntLe.sum {K n:Nat} {f:Nat→Rat} (h:∀ i,i<n→IntLe K (f i)):IntLe (n*K) (sumQ n f):=by
 induction n with
 | zero=>exact (IntLe.zero _)
 | succ n ih =>
  have:=(ih fun i hi=>h i (by omega)).add (h n (by omega))
  rw [Nat.succ_mul]
  exact this
def detK (K:Nat):Nat→Nat
 | 0=>1
 | n+1=>(n+1)*(K*detK K n)
theorem detF_int {K n:Nat} {M:Nat→Nat→Rat} (h:∀ a b,IntLe K (M a b)):IntLe (detK K n) (detF n M):=by
 induction n generalizing M with
 | zero=>exact ⟨1,by simp [detF],by simp [detK]⟩
 | succ n ih =>
  show IntLe ((n+1)*(K*detK K n)) (sumQ (n+1) _)
  refine IntLe.sum fun i hi=>?_
  have h1:=((IntLe.sgn i).mul (h i 0)).mul (ih (M:=fun a b=>M (sk i a) (b+1)) fun a b=>h _ _)
  rw [Nat.one_mul] at h1
  exact h1
theorem detK_mono {K : Nat} (hK : 1 ≤ K) {a b : Nat} (h : a ≤ b) : detK K a ≤ detK K b := by
  induction b with
  | zero => have : a = 0 := by omega
            subst this; exact Nat.le_refl _
  | succ b ih =>
    by_cases e : a = b + 1
    · subst e; exact Nat.le_refl _
    · have h1 := ih (by omega)
      show _ ≤ (b + 1) * (K * detK K b)
      have h2 : 1 * detK K b ≤ K * detK K b := Nat.mul_le_mul_right _ hK
      have h3 : 1 * (K * detK K b) ≤ (b + 1) * (K * detK K b) := Nat.mul_le_mul_right _ (by omega)
      omega
theorem detK_13:detK 1000000000 13<10^130:=by decide +kernel
theorem IntLe.rs {x:Rat} (h:IntLe (detK 1000000000 13) x):RS 131 x:=by
 obtain ⟨z,rfl,h2⟩:=h
 have h3:=Nat.lt_of_le_of_lt h2 detK_13
 refine ⟨?_,?_⟩
 ·show (intB ((z:Rat)).num).size≤131
  rw [show ((z:Rat)).num=z from rfl]
  have h4:=intB_size_le z
  have h5:=numB_size_le z.natAbs 130 h3 (by omega)
  omega
 ·show (numB ((z:Rat)).den).size≤131
  rw [show ((z:Rat)).den=1 from rfl,numB_size,Lib.nDigits_small (by omega)]
  omega
theorem red_small {C:Nat} {m:List (List Rat)} (hR:Rect C m) (hl:m.length≤12) (hm:∀ i j,IntLe 1000000000 (elQ m i j)) (c:Nat):AllRS 2500 (redTo m c).m∧RS 9000 (redTo m c).det:=by
 obtain ⟨ρ,sg,x,h⟩:=redI_all m hR c
 have hr12:(redTo m c).lead.length≤12:=by have:=h.rle;omega
 have hint:∀ (k:Nat) (f g:Nat→Nat),k≤13→IntLe (detK 1000000000 13) (detF k fun a b=>elQ m (f a) (g b)):=fun k f g hk =>
  (detF_int (fun a b=>hm _ _)).mono (detK_mono (by omega) hk)
 have hD:IntLe (detK 1000000000 13) (detF (redTo m c).lead.length fun a b=>elQ m (ρ a) (kapQ (redTo m c).lead b)):=hint _ _ _ (by omega)
 have hne:=h.dne
 have hel:∀ i j,i<m.length→RS 300 (elQ (redTo m c).m i j):=by
  intro i j hi
  have hN:IntLe (detK 1000000000 13) (elQ (redTo m c).m i j*detF (redTo m c).lead.length fun a b=>elQ m (ρ a) (kapQ (redTo m c).lead b)):=by
   by_cases e:i<(redTo m c).lead.length
   ·rw [← h.small e]
    exact hint _ ρ (fun b=>if b=i then j else kapQ (redTo m c).lead b) (by omega)
   ·rw [← h.big (by omega) hi]
    exact hint _ (fun a=>if a<(redTo m c).lead.length then ρ a else ρ i) (fun b=>if b<(redTo m c).lead.length then kapQ (redTo m c).lead b else j) (by omega)
  generalize (detF (redTo m c).lead.length fun a b=>elQ m (ρ a) (kapQ (redTo m c).lead b))=D at *
  generalize elQ (redTo m c).m i j=g at *
  have e:g=(g*D) / D:=by rw [Rat.div_def,Rat.mul_assoc,Rat.mul_inv_cancel _ hne,Rat.mul_one]
  rw [e]
  exact (div_RS hN.rs hD.rs hne).mono (by omega)
 have hsh:=redTo_shape hR c
 refine ⟨fun r hr q hq=>?_,?_⟩
 ·obtain ⟨i,hi⟩:=List.getElem?_of_mem hr
  obtain ⟨j,hj⟩:=List.getElem?_of_mem hq
  have hil:=(List.getElem?_eq_some_iff.1 hi).1
  have:=hel i j (by omega)
  unfold elQ at this
  rw [rowQ_get hi,List.getD_eq_getElem?_getD,hj] at this
  exact RS.mono this (by omega)
 ·rw [h.det]
  split
  ·rw [h.xD]
   rcases h.sgn with e | e
   ·rw [e,Rat.one_mul]
    exact hD.rs.mono (by omega)
   ·rw [e]
    have:IntLe (1*detK 1000000000 13) ((-1:Rat)*detF (redTo m c).lead.length fun a b=>elQ m (ρ a) (kapQ (redTo m c).lead b)):=IntLe.mul ⟨-1,by simp,by simp⟩ hD
    rw [Nat.one_mul] at this
    exact this.rs.mono (by omega)
  ·exact (IntLe.zero _).rs.mono (by omega)
theorem matQ_el {xss:List (List Int)} (h:∀ r∈xss,∀ a∈r,-1000000000≤a∧a≤1000000000) (i j:Nat):IntLe 1000000000 (elQ (matQ xss) i j):=by
 unfold elQ rowQ matQ
 rw [List.getD_eq_getElem?_getD (l:=xss.map rowQI),List.getElem?_map]
 cases hi:xss[i]? with
 | none=>exact IntLe.zero _
 | some r =>
  show IntLe _ ((rowQI r).getD j 0)
  unfold rowQI
  rw [List.getD_eq_getElem?_getD,List.getElem?_map]
  cases hj:r[j]? with
  | none=>exact IntLe.zero _
  | some a =>
   have:=h r (List.mem_of_getElem? hi) a (List.mem_of_getElem? hj)
   exact ⟨a,rfl,by omega⟩
def elI (xss:List (List Int)) (i j:Nat):Int:=(xss.getD i []).getD j 0
theorem matQ_elI (xss:List (List Int)) (i j:Nat):elQ (matQ xss) i j=(elI xss i j:Rat):=by
 unfold elQ rowQ matQ elI
 rw [List.getD_eq_getElem?_getD (l:=xss.map rowQI),List.getElem?_map,List.getD_eq_getElem?_getD (l:=xss)]
 cases hi:xss[i]? with
 | none=>simp
 | some r =>
  show (rowQI r).getD j 0=((r.getD j 0:Int):Rat)
  unfold rowQI
  rw [List.getD_eq_getElem?_getD,List.getElem?_map,List.getD_eq_getElem?_getD]
  cases hj:r[j]? with
  | none=>simp
  | some a=>rfl
end Go.Proofs.YtjlkkofmojgipaaGreatDoor
namespace Go.Proofs.YtjlkkofmojgipaaGreatDoor
set_option linter.unusedVariables false
set_option linter.unusedSimpArgs false
end Go.Proofs.YtjlkkofmojgipaaGreatDoor
