import Derived.Test.YtjlkkofmojgipaaGreatDoorYBR
import Derived.Test.YtjlkkofmojgipaaGreatDoorYAE
namespace Go.Proofs.YtjlkkofmojgipaaGreatDoor
set_option linter.unusedVariables false
set_option linter.unusedSimpArgs false
theorem redI_stepX {C c:Nat} {R:Nat} {A:Nat→Nat→Rat} {s:RedSt} {ρ:Nat→Nat} {sg x:Rat} (h:RedI R A c s ρ sg x) (hR:Rect C s.m) :
  (stepR c s=⟨s.m,s.lead,0⟩∧(∀ i,s.lead.length≤i→elQ s.m i c=0)∧RedI R A (c+1) (stepR c s) ρ sg x) ∨
  ∃ a,s.lead.length≤a∧a<R∧elQ s.m a c≠0∧(∀ j,s.lead.length≤j→j<a→elQ s.m j c=0) ∧
   (stepR c s).lead=s.lead++[c]∧(stepR c s).det=(if a=s.lead.length then s.det else -s.det)*elQ s.m a c ∧
   (∀ i j,elQ (stepR c s).m i j=if i=s.lead.length then elQ s.m a j / elQ s.m a c else elQ s.m (trJ s.lead.length a i) j-elQ s.m (trJ s.lead.length a i) c*(elQ s.m a j / elQ s.m a c)) ∧
   ∃ ρ' sg' x',RedI R A (c+1) (stepR c s) ρ' sg' x'∧detF (s.lead.length+1) (fun i b=>A (ρ' i) (kapQ (stepR c s).lead b))=elQ s.m a c*detF s.lead.length fun a b=>A (ρ a) (kapQ s.lead b):=by
 rcases stepR_el (c:=c) hR (by rw [h.len];exact h.rle) with ⟨e,hz⟩ | ⟨a,ha1,ha2,hne,hfirst,hlead,hlen,hdet,hel⟩
 ·refine .inl ⟨e,hz,?_⟩
  rw [e]
  refine ⟨h.len,h.rle,Nat.le_succ_of_le h.rlc,fun l hl=>Nat.lt_succ_of_lt (h.klt l hl),fun hc=>?_,h.unit,fun i j hi hj=>?_,h.rho,h.sur,h.span,h.dne,h.form,?_,h.sgn,h.sgf,h.xD⟩
  ·have:=h.rlc
   have hc':s.lead.length=c+1:=hc
   omega
  ·by_cases e:j=c
   ·rw [e];exact hz i hi
   ·exact h.zero i j hi (by omega)
  ·show (0:Rat)=if s.lead.length=c+1 then x else 0
   rw [if_neg (by have:=h.rlc;omega)]
 ·rw [h.len] at ha2
  refine .inr ⟨a,ha1,ha2,hne,hfirst,hlead,hdet,hel,?_⟩
  have hL:(stepR c s).lead.length=s.lead.length+1:=by rw [hlead];simp
  have hkold:∀ l,l<s.lead.length→kapQ (stepR c s).lead l=kapQ s.lead l:=fun l hl=>by rw [hlead];exact kapQ_old hl
  have hknew:kapQ (stepR c s).lead s.lead.length=c:=by rw [hlead];exact kapQ_new _ _
  have hbig:=h.big (i:=a) (j:=c) ha1 ha2
  generalize hr:s.lead.length=r at *
  have htr:trJ r a r=a:=by unfold trJ;rw [if_pos rfl]
  have htl:∀ i,i<r→trJ r a i=i:=fun i hi=>by unfold trJ;rw [if_neg (by omega),if_neg (by omega)]
  have htg:∀ i,r≤i→r≤trJ r a i:=fun i hi=>by unfold trJ;repeat' split <;> try omega
  have htR:∀ i,i<R→trJ r a i<R:=fun i hi=>by unfold trJ;repeat' split <;> try omega
  have htt:∀ i,trJ r a (trJ r a i)=i:=fun i=>by unfold trJ;repeat' split <;> try omega
  have hdiv:elQ s.m a c / elQ s.m a c=1:=by rw [Rat.div_def];exact Rat.mul_inv_cancel _ hne
  have hak:∀ l,l<r→elQ s.m a (kapQ s.lead l)=0:=fun l hl=>by rw [h.unit a l (by omega),if_neg (by omega)]
  have hunit:∀ i l,l<r+1→elQ (stepR c s).m i (kapQ (stepR c s).lead l)=if i=l then 1 else 0:=by
   intro i l hl
   by_cases e:l=r
   ·subst e
    rw [hknew,hel]
    by_cases e2:i=l
    ·rw [if_pos e2,if_pos e2,hdiv]
    ·rw [if_neg e2,if_neg e2,hdiv];grind
   ·rw [hkold l (by omega),hel,hak l (by omega)]
    by_cases e2:i=r
    ·rw [if_pos e2,if_neg (by omega),Rat.div_def,Rat.zero_mul]
    ·rw [if_neg e2,h.unit _ l (by omega),Rat.div_def,Rat.zero_mul]
     by_cases e3:i=l
     ·rw [if_pos e3,if_pos (by rw [e3];exact htl l (by omega))];grind
     ·rw [if_neg e3,if_neg (by intro e4;have h5:=htt i;rw [e4,htl l (by omega)] at h5;exact e3 h5.symm)];grind
  have hD:detF (r+1) (fun i b=>A (ρ (trJ r a i)) (kapQ (stepR c s).lead b))=elQ s.m a c*detF r fun a b=>A (ρ a) (kapQ s.lead b):=by
   rw [← hbig]
   refine detF_congr fun i b hi hb=>?_
   have e1:ρ (trJ r a i)=if i<r then ρ i else ρ a:=by
    by_cases e:i<r
    ·rw [if_pos e,htl i e]
    ·rw [if_neg e,show i=r by omega,htr]
   have e2:kapQ (stepR c s).lead b=if b<r then kapQ s.lead b else c:=by
    by_cases e:b<r
    ·rw [if_pos e,hkold b e]
    ·rw [if_neg e,show b=r by omega,hknew]
   rw [e1,e2]
  refine ⟨fun i=>ρ (trJ r a i),(if a=r then 1 else -1)*sg,x*((if a=r then 1 else -1)*elQ s.m a c),⟨by rw [hlen,h.len],by rw [hL];omega,by rw [hL];have:=h.rlc;omega,?_,?_,?_,?_,?_,?_,?_,?_,?_,?_,?_,?_,?_⟩,hD⟩
  ·intro l hl
   rw [hL] at hl
   by_cases e:l=r
   ·rw [e,hknew];omega
   ·rw [hkold l (by omega)];have:=h.klt l (by omega);omega
  ·intro hc l hl
   rw [hL] at hc
   by_cases e:l=r
   ·rw [e,hknew];omega
   ·rw [hkold l (by omega)];exact h.full (by omega) l (by omega)
  ·rw [hL];exact hunit
  ·intro i j hi hj
   rw [hL] at hi
   by_cases e:j=c
   ·have:=hunit i r (by omega)
    rw [hknew,if_neg (by omega)] at this
    rw [e];exact this
   ·rw [hel,if_neg (by omega),h.zero (trJ r a i) j (by have:=htg i (by omega);omega) (by omega),h.zero a j (by omega) (by omega),Rat.div_def,Rat.zero_mul];grind
  ·intro i hi;exact h.rho _ (htR i hi)
  ·intro i hi
   obtain ⟨i',h1,h2⟩:=h.sur i hi
   exact ⟨trJ r a i',htR i' h1,by rw [htt];exact h2⟩
  ·intro i j hi
   have h1:=h.span (trJ r a i) j (htR i hi)
   have h2:=h.span (trJ r a i) c (htR i hi)
   rw [hL]
   show A (ρ (trJ r a i)) j=_+(sumQ r (fun l=>elQ (stepR c s).m l j*A (ρ (trJ r a i)) (kapQ (stepR c s).lead l))+elQ (stepR c s).m r j*A (ρ (trJ r a i)) (kapQ (stepR c s).lead r))
   rw [hknew]
   rw [hr] at h1 h2
   have e1:sumQ r (fun l=>elQ (stepR c s).m l j*A (ρ (trJ r a i)) (kapQ (stepR c s).lead l))=sumQ r (fun l=>elQ s.m l j*A (ρ (trJ r a i)) (kapQ s.lead l))+- (elQ s.m a j / elQ s.m a c)*sumQ r (fun l=>elQ s.m l c*A (ρ (trJ r a i)) (kapQ s.lead l)):=by
    rw [← sumQ_mul,← sumQ_add]
    refine sumQ_congr fun l hl=>?_
    rw [hkold l hl,hel,if_neg (by omega),htl l hl];grind
   rw [e1,hel r j,if_pos rfl,hel i j]
   have hlt:(trJ r a i<r)=(i<r):=by
    apply propext;constructor
    ·intro h;by_cases e:i<r
     ·exact e
     ·have:=htg i (by omega);omega
    ·intro h;rw [htl i h];exact h
   simp only [hlt] at h1 h2
   by_cases e:i<r
   ·rw [if_pos e] at h1 h2
    rw [if_pos (by omega),h1,h2];grind
   ·rw [if_neg e] at h1 h2
    by_cases e2:i=r
    ·rw [e2,htr] at h1 h2
     rw [if_pos (by omega),e2,htr,h1,h2]
     have:elQ s.m a j / elQ s.m a c*elQ s.m a c=elQ s.m a j:=by rw [Rat.div_def,Rat.mul_assoc,Rat.inv_mul_cancel _ hne,Rat.mul_one]
     grind
    ·rw [if_neg (by omega),if_neg e2,h1,h2];grind
  ·rw [hL,hD]
   intro h0
   rcases Rat.mul_eq_zero.1 h0 with h0 | h0
   ·exact hne h0
   ·exact h.dne (by rw [hr];exact h0)
  ·intro f hf
   rw [h.form f hf,hf.pivot ha1 ha2 hne hel];grind
  ·rw [hdet,h.det,hL,hr]
   by_cases e:r=c
   ·rw [if_pos e,if_pos (show r+1=c+1 by omega)];split <;> grind
   ·rw [if_neg e,if_neg (show ¬ r+1=c+1 by omega)];split <;> grind
  ·rcases h.sgn with e | e <;> rw [e] <;> split <;> first | (left;grind) | (right;grind)
  ·intro f hf
   by_cases e:a=r
   ·rw [if_pos e,e]
    have:(fun i b=>A (ρ (trJ r r i)) b)=fun i b=>A (ρ i) b:=by funext i b;rw [trJ_self]
    rw [this,h.sgf f hf];grind
   ·rw [if_neg e,hf.swap (fun i b=>A (ρ i) b) r a (by omega) ha2,h.sgf f hf];grind
  ·rw [hL,hD,h.xD,hr];grind
def rowE (m:List (List Int)) (i:Nat):List Int:=m.getD i []
def combR (p f d:Int) (r pr:List Int):List Int:=List.zipWith (fun x y=>(p*x-f*y) / d) r pr
def elETo (m:List (List Int)) (c k:Nat) (p d:Int):Nat→List (List Int)
 | 0=>m
 | j+1=>if j=k then elETo m c k p d j else (elETo m c k p d j).set j (combR p (elI m j c) d (rowE m j) (rowE m k))
def findE (m:List (List Int)) (c:Nat):Nat→Nat→Nat
 | 0,a=>a
 | f+1,a=>if elI m a c=0 then findE m c f (a+1) else a
structure ElS where
 m:List (List Int)
 lead:List Nat
 last:Int
 odd:Bool
def stepE (c:Nat) (s:ElS):ElS :=
 let k:=s.lead.length
 let a:=findE s.m c (s.m.length-k) k
 if a=s.m.length then s
 else
  let m1:=if a=k then s.m else swp s.m k a
  ⟨elETo m1 c k (elI m1 k c) s.last m1.length,s.lead++[c],elI m1 k c,if a=k then s.odd else !s.odd⟩
def barTo (m:List (List Int)):Nat→ElS
 | 0=>⟨m,[],1,false⟩
 | c+1=>stepE c (barTo m c)
def RectI (C:Nat) (m:List (List Int)):Prop:=∀ r∈m,r.length=C
theorem RectI.row {C:Nat} {m:List (List Int)} (h:RectI C m) {i:Nat} (hi:i<m.length):(rowE m i).length=C:=by
 unfold rowE;rw [List.getD_eq_getElem?_getD,List.getElem?_eq_getElem hi];exact h _ (List.getElem_mem hi)
theorem RectI.set {C:Nat} {m:List (List Int)} (h:RectI C m) (i:Nat) {r:List Int} (hr:r.length=C):RectI C (m.set i r):=fun q hq=>by
 rcases List.mem_or_eq_of_mem_set hq with hq | rfl
 ·exact h q hq
 ·exact hr
theorem RectI.swp {C:Nat} {m:List (List Int)} (h:RectI C m) (i j:Nat):RectI C (swp m i j):=by
 unfold Proofs.YtjlkkofmojgipaaGreatDoor.swp
 split
 ·rename_i a b ha hb
  exact (h.set i (h _ (List.mem_of_getElem? hb))).set j (h _ (List.mem_of_getElem? ha))
 ·exact h
theorem combR_len {p f d:Int} {r pr:List Int} (h:pr.length=r.length):(combR p f d r pr).length=r.length:=by
 unfold combR;rw [List.length_zipWith,h,Nat.min_self]
theorem combR_el {p f d:Int} {r pr:List Int} (h:pr.length=r.length) (x:Nat):(combR p f d r pr).getD x 0=(p*r.getD x 0-f*pr.getD x 0) / d:=by
 unfold combR
 rw [List.getD_eq_getElem?_getD,List.getD_eq_getElem?_getD,List.getD_eq_getElem?_getD,List.getElem?_zipWith]
 by_cases hx:x<r.length
 ·rw [List.getElem?_eq_getElem hx,List.getElem?_eq_getElem (by omega:x<pr.length)];rfl
 ·rw [List.getElem?_eq_none (by omega:r.length≤x),List.getElem?_eq_none (by omega:pr.length≤x)]
  show (0:Int)=(p*0-f*0) / d
  simp
theorem elI_set {m:List (List Int)} {k:Nat} (r:List Int) (hk:k<m.length) (i x:Nat):elI (m.set k r) i x=if i=k then r.getD x 0 else elI m i x:=by
 unfold elI
 rw [List.getD_eq_getElem?_getD (l:=m.set k r),List.getElem?_set]
 by_cases h:i=k
 ·subst h;rw [if_pos rfl,if_pos rfl,if_pos hk];rfl
 ·rw [if_neg (by omega),if_neg h,List.getD_eq_getElem?_getD (l:=m)]
theorem elI_out {m:List (List Int)} {i x:Nat} (h:m.length≤i):elI m i x=0:=by
 unfold elI;rw [List.getD_eq_getElem?_getD (l:=m),List.getElem?_eq_none h];simp
theorem elETo_len (m : List (List Int)) (c k : Nat) (p d : Int) : ∀ j, (elETo m c k p d j).length = m.length
  | 0 => rfl
  | j + 1 => by
    unfold elETo; split
    · exact elETo_len m c k p d j
    · rw [List.length_set]; exact elETo_len m c k p d j
theorem elETo_get (m : List (List Int)) (c k : Nat) (p d : Int) : ∀ (j i : Nat), j ≤ i ∨ i = k → (elETo m c k p d j)[i]? = m[i]?
  | 0, i, _ => rfl
  | j + 1, i, h => by
    unfold elETo
    by_cases e : j = k
    · rw [if_pos e]; exact elETo_get m c k p d j i (by omega)
    · rw [if_neg e, List.getElem?_set, if_neg (by omega)]
      exact elETo_get m c k p d j i (by omega)
theorem RectI.el {C : Nat} {m : List (List Int)} (h : RectI C m) (c k : Nat) (p d : Int) (hk : k < m.length) : ∀ j, j ≤ m.length → RectI C (elETo m c k p d j)
  | 0, _ => h
  | j + 1, hj => by
    unfold elETo
    split
    · exact RectI.el h c k p d hk j (by omega)
    · exact (RectI.el h c k p d hk j (by omega)).set j (by rw [combR_len (by rw [h.row hk, h.row (show j < m.length by omega)]), h.row (by omega)])
theorem elETo_el {C : Nat} {m : List (List Int)} (h : RectI C m) (c k : Nat) (p d : Int) (hk : k < m.length) (x : Nat) :
    ∀ j, j ≤ m.length → ∀ i, elI (elETo m c k p d j) i x = if i < j ∧ i ≠ k then (p * elI m i x - elI m i c * elI m k x) / d else elI m i x
  | 0, _, i => by rw [if_neg (by omega)]; rfl
  | j + 1, hj, i => by
    have ih := elETo_el h c k p d hk x j (by omega) i
    unfold elETo
    by_cases e : j = k
    · rw [if_pos e, ih]
      by_cases h1 : i < j ∧ i ≠ k
      · rw [if_pos h1, if_pos ⟨by omega, h1.2⟩]
      · rw [if_neg h1, if_neg (by rintro ⟨h2, h3⟩; exact h1 ⟨by omega, h3⟩)]
    · rw [if_neg e, elI_set _ (by rw [elETo_len]; omega), ih]
      by_cases e2 : i = j
      · subst e2
        rw [if_pos rfl, if_pos ⟨by omega, e⟩, combR_el (by rw [h.row hk, h.row (by omega)])]
        rfl
      · rw [if_neg e2]
        by_cases h1 : i < j ∧ i ≠ k
        · rw [if_pos h1, if_pos ⟨by omega, h1.2⟩]
        · rw [if_neg h1, if_neg (by rintro ⟨h2, h3⟩; exact h1 ⟨by omega, h3⟩)]
theorem findE_spec (m : List (List Int)) (c : Nat) : ∀ (f a : Nat), a ≤ findE m c f a ∧ findE m c f a ≤ a + f ∧ (∀ j, a ≤ j → j < findE m c f a → elI m j c = 0) ∧ (findE m c f a < a + f → elI m (findE m c f a) c ≠ 0)
  | 0, a => ⟨Nat.le_refl _, Nat.le_refl _, fun j h1 h2 => by have : j < a := h2; omega, fun h => by have : a < a + 0 := h; omega⟩
  | f + 1, a => by
    unfold findE
    by_cases h : elI m a c = 0
    · rw [if_pos h]
      obtain ⟨h1, h2, h3, h4⟩ := findE_spec m c f (a + 1)
      refine ⟨by omega, by omega, fun j hj1 hj2 => ?_, fun hl => h4 (by omega)⟩
      by_cases e : j = a
      · rw [e]; exact h
      · exact h3 j (by omega) hj2
    · rw [if_neg h]; exact ⟨Nat.le_refl _, by omega, fun j h1 h2 => by omega, fun _ => h⟩
theorem findE_first {m:List (List Int)} {c k a:Nat} (h1:k≤a) (h2:a<m.length) (hne:elI m a c≠0) (h0:∀ j,k≤j→j<a→elI m j c=0):findE m c (m.length-k) k=a:=by
 obtain ⟨g1,g2,g3,g4⟩:=findE_spec m c (m.length-k) k
 generalize findE m c (m.length-k) k=b at *
 rcases Nat.lt_trichotomy b a with h | h | h
 ·exact absurd (h0 b g1 h) (g4 (by omega))
 ·exact h
 ·exact absurd (g3 a h1 h) hne
theorem findE_none {m:List (List Int)} {c k:Nat} (hk:k≤m.length) (h0:∀ j,k≤j→elI m j c=0):findE m c (m.length-k) k=m.length:=by
 obtain ⟨g1,g2,g3,g4⟩:=findE_spec m c (m.length-k) k
 generalize findE m c (m.length-k) k=b at *
 by_cases h:b<m.length
 ·exact absurd (h0 b g1) (g4 (by omega))
 ·omega
theorem elI_swp {m:List (List Int)} {a b:Nat} (ha:a<m.length) (hb:b<m.length) (i j:Nat):elI (swp m a b) i j=elI m (trJ a b i) j:=by
 unfold elI
 rw [List.getD_eq_getElem?_getD (l:=swp m a b),List.getD_eq_getElem?_getD (l:=m),swp_get (List.getElem?_eq_getElem ha) (List.getElem?_eq_getElem hb)]
 unfold trJ
 by_cases h1:i=a
 ·subst h1
  by_cases h2:i=b
  ·subst h2;rw [if_pos rfl,if_pos rfl,List.getElem?_eq_getElem ha]
  ·rw [if_neg h2,if_pos rfl,if_pos rfl,List.getElem?_eq_getElem hb]
 ·by_cases h2:i=b
  ·subst h2;rw [if_pos rfl,if_neg h1,if_pos rfl,List.getElem?_eq_getElem ha]
  ·rw [if_neg h2,if_neg h1,if_neg h1,if_neg h2]
structure BarI (C c:Nat) (m:List (List Int)) (E:ElS) (S:RedSt):Prop where
 lead:E.lead=S.lead
 len:E.m.length=m.length
 rect:RectI C E.m
 el:∀ i j,((elI E.m i j:Int):Rat)=(E.last:Rat)*elQ S.m i j
 ne:E.last≠0
 det:S.lead.length=c→S.det=(if E.odd then -1 else 1)*(E.last:Rat)
 inv:∃ ρ sg x,RedI m.length (elQ (matQ m)) c S ρ sg x∧(E.last:Rat)=detF S.lead.length fun a b=>elQ (matQ m) (ρ a) (kapQ S.lead b)
theorem red_int {K R c:Nat} {A:Nat→Nat→Rat} {s:RedSt} {ρ:Nat→Nat} {sg x:Rat} (h:RedI R A c s ρ sg x) (hA:∀ i j,IntLe K (A i j)) (hK:1≤K) (i j:Nat) :
  IntLe (detK K (R+1)) (detF s.lead.length (fun a b=>A (ρ a) (kapQ s.lead b))*elQ s.m i j):=by
 have hl:=h.rle
 by_cases hi:i<s.lead.length
 ·rw [Rat.mul_comm,← h.small hi]
  exact (detF_int fun a b=>hA _ _).mono (detK_mono hK (by omega))
 ·by_cases hR:i<R
  ·rw [Rat.mul_comm,← h.big (by omega) hR]
   exact (detF_int fun a b=>hA _ _).mono (detK_mono hK (by omega))
  ·rw [elQ_out (by rw [h.len];omega),Rat.mul_zero]
   exact IntLe.zero _
theorem barI_zero {C:Nat} {m:List (List Int)} (hr:RectI C m) (hR:Rect C (matQ m)):BarI C 0 m (barTo m 0) (redTo (matQ m) 0) where
 lead:=rfl
 len:=rfl
 rect:=hr
 el:=fun i j=>by
  show ((elI m i j:Int):Rat)=((1:Int):Rat)*elQ (matQ m) i j
  rw [matQ_elI];grind
 ne:=by show (1:Int)≠0;decide
 det:=fun _=>by show (1:Rat)=(if false=true then -1 else 1)*((1:Int):Rat);rw [if_neg (by decide)];grind
 inv:=⟨fun i=>i,1,1,by have:=redI_zero (matQ m) hR;rw [show (matQ m).length=m.length by simp [matQ]] at this;exact this,by show ((1:Int):Rat)=1;grind⟩
theorem barI_step {C c K:Nat} {m:List (List Int)} {E:ElS} {S:RedSt} (hK:1≤K) (hm:∀ i j,IntLe K (elQ (matQ m) i j)) (hRS:Rect C S.m) (h:BarI C c m E S) :
  BarI C (c+1) m (stepE c E) (stepR c S):=by
 obtain ⟨ρ,sg,x,hI,hD⟩:=h.inv
 have hlen:=h.len
 have hrle:=hI.rle
 rcases redI_stepX hI hRS with ⟨e,hz,hI'⟩ | ⟨a,ha1,ha2,hne,hfirst,hlead,hdet,hel,ρ',sg',x',hI',hD'⟩
 ·have hst:stepE c E=E:=by
   unfold stepE
   simp only
   rw [h.lead,findE_none (by omega) (fun j hj=>by
    have:=h.el j c
    rw [hz j hj,Rat.mul_zero] at this
    exact_mod_cast this),if_pos rfl]
  rw [hst]
  rw [e] at hI' ⊢
  exact ⟨h.lead,h.len,h.rect,h.el,h.ne,fun hc=>by have:=hI.rlc;have hc':S.lead.length=c+1:=hc;omega,ρ,sg,x,hI',hD⟩
 ·obtain ⟨k,hk⟩:∃ k,k=S.lead.length:=⟨_,rfl⟩
  rw [← hk] at ha1 hfirst hdet hel hD' hrle
  have hal:a<E.m.length:=by omega
  have hkl:k<E.m.length:=by omega
  have hpe:elI E.m a c≠0:=by
   intro h0
   have:=h.el a c
   rw [h0] at this
   have h2:(E.last:Rat)≠0:=by exact_mod_cast h.ne
   rcases Rat.mul_eq_zero.1 (show (E.last:Rat)*elQ S.m a c=0 by rw [← this];rfl) with h3 | h3
   ·exact h2 h3
   ·exact hne h3
  have hfind:findE E.m c (E.m.length-k) k=a:=findE_first ha1 hal hpe fun j h1 h2=>by
   have:=h.el j c
   rw [hfirst j h1 h2,Rat.mul_zero] at this
   exact_mod_cast this
  obtain ⟨m1,hm1⟩:∃ m1,m1=if a=k then E.m else swp E.m k a:=⟨_,rfl⟩
  have hst:stepE c E=⟨elETo m1 c k (elI m1 k c) E.last m1.length,S.lead++[c],elI m1 k c,if a=k then E.odd else !E.odd⟩:=by
   unfold stepE
   simp only
   rw [h.lead,← hk,hfind,if_neg (by omega),← hm1]
  have e1:∀ i j,elI m1 i j=elI E.m (trJ k a i) j:=fun i j=>by
   rw [hm1]
   by_cases e:a=k
   ·rw [if_pos e,e,trJ_self]
   ·rw [if_neg e];exact elI_swp hkl hal i j
  have l1:m1.length=E.m.length:=by
   rw [hm1];split
   ·rfl
   ·exact swp_length _ _ _
  have r1:RectI C m1:=by
   rw [hm1];split
   ·exact h.rect
   ·exact h.rect.swp _ _
  clear hm1
  have htk:trJ k a k=a:=by unfold trJ;rw [if_pos rfl]
  obtain ⟨p,hp⟩:∃ p,p=elI m1 k c:=⟨_,rfl⟩
  have hpa:p=elI E.m a c:=by rw [hp,e1,htk]
  have hpc:(p:Rat)=(E.last:Rat)*elQ S.m a c:=by rw [hpa];exact h.el a c
  have hpD:(p:Rat)=detF (stepR c S).lead.length fun i b=>elQ (matQ m) (ρ' i) (kapQ (stepR c S).lead b):=by
   rw [show (stepR c S).lead.length=k+1 by rw [hlead,List.length_append,← hk];rfl,hD',hpc,hD,← hk];grind
  rw [← hp] at hst
  rw [hst]
  refine ⟨hlead.symm,by show (elETo m1 c k p E.last m1.length).length=_;rw [elETo_len,l1];exact hlen,r1.el c k p E.last (by omega) _ (Nat.le_refl _),fun i j=>?_,by show p≠0;rw [hpa];exact hpe,fun hc=>?_,ρ',sg',x',hI',hpD⟩
  ·show ((elI (elETo m1 c k p E.last m1.length) i j:Int):Rat)=(p:Rat)*elQ (stepR c S).m i j
   rw [elETo_el r1 c k p E.last (by omega) j _ (Nat.le_refl _)]
   by_cases hik:i=k
   ·rw [if_neg (by rintro ⟨-,h⟩;exact h hik),hel,if_pos hik,hik,e1,htk,h.el,hpc]
    have:elQ S.m a c*(elQ S.m a j / elQ S.m a c)=elQ S.m a j:=by rw [Rat.div_def,Rat.mul_comm (elQ S.m a j),← Rat.mul_assoc,Rat.mul_inv_cancel _ hne,Rat.one_mul]
    rw [Rat.mul_assoc,this]
   ·by_cases hil:i<m1.length
    ·rw [if_pos ⟨hil,hik⟩]
     obtain ⟨z,hz,-⟩:=red_int hI' hm hK i j
     rw [← hpD] at hz
     have hN:p*elI m1 i j-elI m1 i c*elI m1 k j=E.last*z:=by
      have hq:((p*elI m1 i j-elI m1 i c*elI m1 k j:Int):Rat)=((E.last*z:Int):Rat):=by
       rw [Rat.intCast_sub,Rat.intCast_mul,Rat.intCast_mul,Rat.intCast_mul,← hz,e1,e1,e1,htk,h.el,h.el,h.el,hel,if_neg hik,hpc]
       have:elQ S.m a c*(elQ S.m a j / elQ S.m a c)=elQ S.m a j:=by rw [Rat.div_def,Rat.mul_comm (elQ S.m a j),← Rat.mul_assoc,Rat.mul_inv_cancel _ hne,Rat.one_mul]
       grind
      exact_mod_cast hq
     rw [hN,Int.mul_ediv_cancel_left z h.ne,hz]
    ·rw [if_neg (by rintro ⟨h,-⟩;exact hil h),elI_out (by omega),elQ_out (by rw [hI'.len];omega)]
     show (0:Rat)=_
     rw [Rat.mul_zero]
  ·have hkc:S.lead.length=c:=by
    rw [hlead,List.length_append] at hc
    have:S.lead.length+1=c+1:=hc
    omega
   have hd:=h.det hkc
   rw [hdet]
   show _=(if (if a=k then E.odd else !E.odd)=true then (-1:Rat) else 1)*(p:Rat)
   rw [hd,hpc]
   by_cases e:a=k
   ·rw [if_pos e,if_pos e];grind
   ·rw [if_neg e,if_neg e]
    cases E.odd <;> simp <;> grind
theorem matQ_rectI {C:Nat} {m:List (List Int)} (hr:RectI C m):Rect C (matQ m):=by
 intro r hr'
 unfold matQ at hr'
 obtain ⟨q,hq,rfl⟩:=List.mem_map.1 hr'
 unfold rowQI
 rw [List.length_map];exact hr q hq
theorem barI_all {C K:Nat} {m:List (List Int)} (hK:1≤K) (hm:∀ i j,IntLe K (elQ (matQ m) i j)) (hr:RectI C m):∀ c,BarI C c m (barTo m c) (redTo (matQ m) c)
 | 0=>barI_zero hr (matQ_rectI hr)
 | c+1=>barI_step hK hm (redTo_shape (matQ_rectI hr) c).1 (barI_all hK hm hr c)
theorem BarI.small {C c K:Nat} {m:List (List Int)} {E:ElS} {S:RedSt} (h:BarI C c m E S) (hK:1≤K) (hm:∀ i j,IntLe K (elQ (matQ m) i j)) :
  (∀ i j,(elI E.m i j).natAbs≤detK K (m.length+1))∧E.last.natAbs≤detK K (m.length+1):=by
 obtain ⟨ρ,sg,x,hI,hD⟩:=h.inv
 have key:∀ (z:Int) (q:Rat),IntLe (detK K (m.length+1)) q→(z:Rat)=q→z.natAbs≤detK K (m.length+1):=by
  rintro z q ⟨y,hy,hb⟩ hz
  rw [hy] at hz
  have:z=y:=by exact_mod_cast hz
  rw [this];exact hb
 refine ⟨fun i j=>key _ _ (red_int hI hm hK i j) (by rw [h.el,hD]),key _ _ ((detF_int fun a b=>hm _ _).mono (detK_mono hK (by have:=hI.rle;omega))) hD⟩
end Go.Proofs.YtjlkkofmojgipaaGreatDoor
