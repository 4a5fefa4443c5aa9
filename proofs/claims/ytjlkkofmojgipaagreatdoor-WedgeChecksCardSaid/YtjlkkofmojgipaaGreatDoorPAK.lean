import Derived.Test.YtjlkkofmojgipaaGreatDoorPAJ
import Derived.Test.YtjlkkofmojgipaaGreatDoorPAA
namespace Go.Proofs.YtjlkkofmojgipaaGreatDoor
set_option linter.unusedVariables false
set_option linter.unusedSimpArgs false
open Go.RowKit
theorem cell_of_heapQ {w w':World} {g:Nat} (h:w'.heap[g]?=w.heap[g]?) (j:Nat):w'.cell? ⟨g,j,none⟩=w.cell? ⟨g,j,none⟩:=by
 simp [World.cell?,h]
theorem free_of_heapQ {w w':World} {g:Nat} (h:w'.heap[g]?=w.heap[g]?) (j:Nat):w'.frozen? ⟨g,j,none⟩=w.frozen? ⟨g,j,none⟩:=by
 simp [World.frozen?,h]
theorem setCell_sizeQ (w:World) (a:Addr) (v:Value):(w.setCell a v).heap.size=w.heap.size:=by simp [World.setCell]
structure RowQ (w:World) (g:Nat) (xs:List Rat):Prop where
 lt:g<w.heap.size
 num:∀ (j:Nat) x,xs[j]?=some x→w.cell? ⟨g,j*2,none⟩=some (.string (intB x.num))
 den:∀ (j:Nat) x,xs[j]?=some x→w.cell? ⟨g,j*2+1,none⟩=some (.string (numB x.den))
 free:∀ j,w.frozen? ⟨g,j,none⟩=false
theorem RowQ.same {w w':World} {g:Nat} {xs:List Rat} (h:RowQ w g xs) (hs:w.heap.size≤w'.heap.size) (hg:w'.heap[g]?=w.heap[g]?):RowQ w' g xs :=
 ⟨Nat.lt_of_lt_of_le h.lt hs,fun j x hx=>(cell_of_heapQ hg _).trans (h.num j x hx),fun j x hx=>(cell_of_heapQ hg _).trans (h.den j x hx),fun j=>(free_of_heapQ hg j).trans (h.free j)⟩
theorem RowQ.ext {w w':World} {g:Nat} {xs:List Rat} (h:RowQ w g xs) (he:Ext w w'):RowQ w' g xs:=h.same he.size (he.block g h.lt)
theorem RowQ.grown {w w':World} {S:Nat→Prop} {g:Nat} {xs:List Rat} (h:RowQ w g xs) (hg:GrownS S w w') (hS:¬ S g):RowQ w' g xs:=h.same hg.size (hg.block g h.lt hS)
theorem frozen_set (w:World) (g i j:Nat) (v:Value):(w.setCell ⟨g,i,none⟩ v).frozen? ⟨g,j,none⟩=w.frozen? ⟨g,j,none⟩:=by
 exact World.frozen?_setCell ..
theorem RowQ.set {w : World} {g : Nat} {xs : List Rat} (h : RowQ w g xs) (k : Nat) (hk : k < xs.length) (y : Rat) :
    RowQ ((w.setCell ⟨g, k * 2, none⟩ (.string (intB y.num))).setCell ⟨g, k * 2 + 1, none⟩ (.string (numB y.den))) g (xs.set k y) := by
  have hx : xs[k]? = some xs[k] := List.getElem?_eq_getElem hk
  have c0 := h.num k _ hx
  have c1 := h.den k _ hx
  refine ⟨by rw [setCell_sizeQ, setCell_sizeQ]; exact h.lt, fun j x hj => ?_, fun j x hj => ?_, fun j => by rw [frozen_set, frozen_set]; exact h.free j⟩
  all_goals
    rw [List.getElem?_set] at hj
    by_cases e : k = j
    · subst e
      rw [if_pos rfl, if_pos hk] at hj
      cases hj
      first
        | (rw [World.cell?_setCell_other _ _ _ _ (by intro e; simp only [Addr.mk.injEq] at e; omega)]
           exact World.cell?_setCell_same w _ _ c0)
        | (refine World.cell?_setCell_same _ _ (v := .string (numB xs[k].den)) _ ?_
           rw [World.cell?_setCell_other _ _ _ _ (by intro e; simp only [Addr.mk.injEq] at e; omega)]
           exact c1)
        | (exact World.cell?_setCell_same _ _ _ ((World.cell?_setCell_other _ _ _ _ (by intro e; simp only [Addr.mk.injEq] at e; omega)).trans c1))
    · rw [if_neg e] at hj
      rw [World.cell?_setCell_other _ _ _ _ (by intro e; simp only [Addr.mk.injEq] at e; omega), World.cell?_setCell_other _ _ _ _ (by intro e; simp only [Addr.mk.injEq] at e; omega)]
      first | exact h.num j x hj | exact h.den j x hj
structure MatQ (w:World) (g0:Nat) (tags:List (Nat×Nat)) (m:List (List Rat)):Prop where
 len:tags.length=m.length
 lt:g0<w.heap.size
 free:∀ j,w.frozen? ⟨g0,j,none⟩=false
 row:∀ (i:Nat) t r,tags[i]?=some t→m[i]?=some r→w.cell? ⟨g0,i,none⟩=some (.slice (some ⟨t.1,0,none⟩) r.length t.2)∧r.length≤t.2∧t.2≤9223372036854775807∧RowQ w t.1 r
 nodup:(g0::tags.map (·.1)).Nodup
def blocksQ (g0:Nat) (tags:List (Nat×Nat)) (b:Nat):Prop:=b∈g0::tags.map (·.1)
theorem MatQ.same {w w':World} {g0:Nat} {tags:List (Nat×Nat)} {m:List (List Rat)} (h:MatQ w g0 tags m) (hs:w.heap.size≤w'.heap.size) (hb:∀ b,blocksQ g0 tags b→w'.heap[b]?=w.heap[b]?):MatQ w' g0 tags m:=by
 have h0:=hb g0 (List.mem_cons_self ..)
 refine ⟨h.len,Nat.lt_of_lt_of_le h.lt hs,fun j=>(free_of_heapQ h0 j).trans (h.free j),fun i t r ht hr=>?_,h.nodup⟩
 obtain ⟨h1,h2,h3,h4⟩:=h.row i t r ht hr
 exact ⟨(cell_of_heapQ h0 i).trans h1,h2,h3,h4.same hs (hb t.1 (List.mem_cons_of_mem _ (List.mem_map.2 ⟨t,List.mem_of_getElem? ht,rfl⟩)))⟩
theorem MatQ.blt {w:World} {g0:Nat} {tags:List (Nat×Nat)} {m:List (List Rat)} (h:MatQ w g0 tags m) {b:Nat} (hb:blocksQ g0 tags b):b<w.heap.size:=by
 rcases List.mem_cons.1 hb with rfl | hb
 ·exact h.lt
 ·obtain ⟨t,ht,rfl⟩:=List.mem_map.1 hb
  obtain ⟨i,hi⟩:=List.getElem?_of_mem ht
  have hl:i<m.length:=by rw [← h.len];exact (List.getElem?_eq_some_iff.1 hi).1
  exact (h.row i t m[i] hi (List.getElem?_eq_getElem hl)).2.2.2.lt
theorem MatQ.ext {w w':World} {g0:Nat} {tags:List (Nat×Nat)} {m:List (List Rat)} (h:MatQ w g0 tags m) (he:Ext w w'):MatQ w' g0 tags m :=
 h.same he.size fun b hb=>he.block b (h.blt hb)
theorem MatQ.grown {w w':World} {S:Nat→Prop} {g0:Nat} {tags:List (Nat×Nat)} {m:List (List Rat)} (h:MatQ w g0 tags m) (hg:GrownS S w w') (hS:∀ b,blocksQ g0 tags b→¬ S b):MatQ w' g0 tags m :=
 h.same hg.size fun b hb=>hg.block b (h.blt hb) (hS b hb)
theorem MatQ.get {w:World} {g0:Nat} {tags:List (Nat×Nat)} {m:List (List Rat)} (h:MatQ w g0 tags m) {i:Nat} {r:List Rat} (hr:m[i]?=some r) :
  ∃ t,tags[i]?=some t∧w.cell? ⟨g0,i,none⟩=some (.slice (some ⟨t.1,0,none⟩) r.length t.2)∧r.length≤t.2∧t.2≤9223372036854775807∧RowQ w t.1 r∧t.1≠g0∧blocksQ g0 tags t.1:=by
 have hi:=(List.getElem?_eq_some_iff.1 hr).1
 have hl:i<tags.length:=by rw [h.len];exact hi
 have:=h.row i tags[i] r (List.getElem?_eq_getElem hl) hr
 refine ⟨tags[i],List.getElem?_eq_getElem hl,this.1,this.2.1,this.2.2.1,this.2.2.2,?_,List.mem_cons_of_mem _ (List.mem_map.2 ⟨tags[i],List.getElem_mem hl,rfl⟩)⟩
 have hn:=(List.nodup_cons.1 h.nodup).1
 intro e2
 exact hn (List.mem_map.2 ⟨tags[i],List.getElem_mem hl,e2⟩)
theorem MatQ.apart {w:World} {g0:Nat} {tags:List (Nat×Nat)} {m:List (List Rat)} (h:MatQ w g0 tags m) {i j:Nat} {s t:Nat×Nat} (hs:tags[i]?=some s) (ht:tags[j]?=some t) (hij:i≠j):s.1≠t.1:=by
 have hn:=(List.nodup_cons.1 h.nodup).2
 intro e
 have h1:(tags.map (·.1))[i]?=some s.1:=by rw [List.getElem?_map,hs];rfl
 have h2:(tags.map (·.1))[j]?=some s.1:=by rw [List.getElem?_map,ht,e];rfl
 obtain ⟨l1,e1⟩:=List.getElem?_eq_some_iff.1 h1
 obtain ⟨l2,e2⟩:=List.getElem?_eq_some_iff.1 h2
 exact hij ((List.getElem_inj hn).1 (e1.trans e2.symm))
theorem MatQ.setRow {w w':World} {g0:Nat} {tags:List (Nat×Nat)} {m:List (List Rat)} (h:MatQ w g0 tags m) {i:Nat} {t:Nat×Nat} {r r0:List Rat} (ht:tags[i]?=some t) (hr0:m[i]?=some r0) (hr:r.length=r0.length) (hg:GrownS (·=t.1) w w') (hR:RowQ w' t.1 r):MatQ w' g0 tags (m.set i r):=by
 have hi:=(List.getElem?_eq_some_iff.1 hr0).1
 obtain ⟨t',ht',-,-,-,-,hne,-⟩:=h.get hr0
 obtain rfl:t'=t:=Option.some.inj (ht'.symm.trans ht)
 have h0:=hg.block g0 h.lt (fun e=>hne e.symm)
 refine ⟨by rw [List.length_set];exact h.len,Nat.lt_of_lt_of_le h.lt hg.size,fun j=>(free_of_heapQ h0 j).trans (h.free j),fun j s q hs hq=>?_,h.nodup⟩
 rw [List.getElem?_set] at hq
 by_cases hj:i=j
 ·subst hj
  rw [if_pos rfl,if_pos hi] at hq
  cases hq
  obtain rfl:s=t':=Option.some.inj (hs.symm.trans ht)
  obtain ⟨h1,h2,h3,h4⟩:=h.row i s r0 hs hr0
  rw [← hr] at h1 h2
  exact ⟨(cell_of_heapQ h0 i).trans h1,h2,h3,hR⟩
 ·rw [if_neg hj] at hq
  obtain ⟨h1,h2,h3,h4⟩:=h.row j s q hs hq
  exact ⟨(cell_of_heapQ h0 j).trans h1,h2,h3,h4.grown hg (h.apart hs ht (fun e=>hj e.symm))⟩
def swp {α:Type} (l:List α) (i j:Nat):List α:=match l[i]?,l[j]? with
 | some a,some b=>(l.set i b).set j a
 | _,_=>l
theorem swp_length {α:Type} (l:List α) (i j:Nat):(swp l i j).length=l.length:=by
 unfold swp;split <;> simp
theorem swp_get {α:Type} {l:List α} {i j:Nat} {a b:α} (hi:l[i]?=some a) (hj:l[j]?=some b) (k:Nat):(swp l i j)[k]?=if k=j then some a else if k=i then some b else l[k]?:=by
 have h1:=(List.getElem?_eq_some_iff.1 hi).1
 have h2:=(List.getElem?_eq_some_iff.1 hj).1
 unfold swp
 rw [hi,hj]
 show ((l.set i b).set j a)[k]?=_
 rw [List.getElem?_set,List.getElem?_set,List.length_set]
 by_cases e1:j=k
 ·subst e1;simp [h2]
 ·by_cases e2:i=k
  ·subst e2;simp [e1,h1,Ne.symm e1]
  ·simp [e1,e2,Ne.symm e1,Ne.symm e2]
theorem swp_map {α β:Type} (f:α→β) (l:List α) (i j:Nat):(swp l i j).map f=swp (l.map f) i j:=by
 unfold swp
 rw [List.getElem?_map,List.getElem?_map]
 cases l[i]? <;> cases l[j]? <;> simp [List.map_set]
theorem swp_nodup {α:Type} {l:List α} (h:l.Nodup) (i j:Nat):(swp l i j).Nodup:=by
 by_cases hb:i<l.length∧j<l.length
 ·obtain ⟨h1,h2⟩:=hb
  have hi:l[i]?=some l[i]:=List.getElem?_eq_getElem h1
  have hj:l[j]?=some l[j]:=List.getElem?_eq_getElem h2
  have inj:∀ p q,p<l.length→q<l.length→l[p]?=l[q]?→p=q:=by
   intro p q hp hq e
   rw [List.getElem?_eq_getElem hp,List.getElem?_eq_getElem hq] at e
   exact (List.getElem_inj h).1 (Option.some.inj e)
  refine List.pairwise_iff_getElem.2 fun p q hp0 hq0 hpq e0=>?_
  have e:(swp l i j)[p]?=(swp l i j)[q]?:=by rw [List.getElem?_eq_getElem hp0,List.getElem?_eq_getElem hq0,e0]
  have hq:q<l.length:=by rw [swp_length] at hq0;exact hq0
  rw [swp_get hi hj,swp_get hi hj,← hi,← hj] at e
  have hp:p<l.length:=by omega
  have hsg:∀ k,(if k=j then l[i]? else if k=i then l[j]? else l[k]?)=l[if k=j then i else if k=i then j else k]?:=by
   intro k
   by_cases a:k=j
   ·rw [if_pos a,if_pos a]
   ·rw [if_neg a,if_neg a]
    by_cases b:k=i
    ·rw [if_pos b,if_pos b]
    ·rw [if_neg b,if_neg b]
  have hsl:∀ k,k<l.length→(if k=j then i else if k=i then j else k)<l.length:=by
   intro k hk
   by_cases a:k=j
   ·rw [if_pos a];exact h1
   ·rw [if_neg a]
    by_cases b:k=i
    ·rw [if_pos b];exact h2
    ·rw [if_neg b];exact hk
  rw [hsg,hsg] at e
  have e2:=inj _ _ (hsl p hp) (hsl q hq) e
  have key:∀ k,(if k=j then i else if k=i then j else k)=i∧k=j∨(if k=j then i else if k=i then j else k)=j∧k=i∨(if k=j then i else if k=i then j else k)=k∧k≠j∧k≠i:=by
   intro k
   by_cases a:k=j
   ·left;exact ⟨if_pos a,a⟩
   ·by_cases b:k=i
    ·right;left;exact ⟨by rw [if_neg a,if_pos b],b⟩
    ·right;right;exact ⟨by rw [if_neg a,if_neg b],a,b⟩
  have kp:=key p
  have kq:=key q
  generalize (if p=j then i else if p=i then j else p)=P at *
  generalize (if q=j then i else if q=i then j else q)=Q at *
  omega
 ·have:swp l i j=l:=by
   unfold swp
   by_cases h1:i<l.length
   ·rw [List.getElem?_eq_getElem h1,List.getElem?_eq_none (show l.length≤j by omega)]
   ·rw [List.getElem?_eq_none (show l.length≤i by omega)]
  rw [this];exact h
theorem MatQ.swap {w:World} {g0:Nat} {tags:List (Nat×Nat)} {m:List (List Rat)} (h:MatQ w g0 tags m) {i j:Nat} {s t:Nat×Nat} {p q:List Rat} (hs:tags[i]?=some s) (ht:tags[j]?=some t) (hp:m[i]?=some p) (hq:m[j]?=some q) :
  MatQ ((w.setCell ⟨g0,i,none⟩ (.slice (some ⟨t.1,0,none⟩) q.length t.2)).setCell ⟨g0,j,none⟩ (.slice (some ⟨s.1,0,none⟩) p.length s.2)) g0 (swp tags i j) (swp m i j):=by
 have hgr:GrownS (·=g0) w ((w.setCell ⟨g0,i,none⟩ (.slice (some ⟨t.1,0,none⟩) q.length t.2)).setCell ⟨g0,j,none⟩ (.slice (some ⟨s.1,0,none⟩) p.length s.2)):=((GrownS.refl (·=g0) w).store (S:=(·=g0)) rfl _ _).store (S:=(·=g0)) rfl _ _
 have ci:=(h.row i s p hs hp).1
 have cj:=(h.row j t q ht hq).1
 refine ⟨by rw [swp_length,swp_length];exact h.len,by rw [setCell_sizeQ,setCell_sizeQ];exact h.lt,fun k=>by rw [frozen_set,frozen_set];exact h.free k,fun k u r hu hr=>?_,?_⟩
 ·rw [swp_get hs ht] at hu
  rw [swp_get hp hq] at hr
  have hrow:∀ (k:Nat) u r,tags[k]?=some u→m[k]?=some r→RowQ ((w.setCell ⟨g0,i,none⟩ (.slice (some ⟨t.1,0,none⟩) q.length t.2)).setCell ⟨g0,j,none⟩ (.slice (some ⟨s.1,0,none⟩) p.length s.2)) u.1 r:=by
   intro k u r hu hr
   obtain ⟨u',hu',-,-,-,hR,hne,-⟩:=h.get hr
   obtain rfl:u'=u:=Option.some.inj (hu'.symm.trans hu)
   exact hR.grown hgr hne
  by_cases e1:k=j
  ·subst e1
   rw [if_pos rfl] at hu hr
   cases hu;cases hr
   obtain ⟨_,h2,h3,_⟩:=h.row i s p hs hp
   refine ⟨?_,h2,h3,hrow i s p hs hp⟩
   by_cases e2:i=k
   ·subst e2
    exact World.cell?_setCell_same _ _ _ (World.cell?_setCell_same w _ _ ci)
   ·exact World.cell?_setCell_same _ _ _ ((World.cell?_setCell_other _ _ _ _ (by intro e;simp only [Addr.mk.injEq] at e;omega)).trans cj)
  ·rw [if_neg e1] at hu hr
   by_cases e2:k=i
   ·subst e2
    rw [if_pos rfl] at hu hr
    cases hu;cases hr
    obtain ⟨_,h2,h3,_⟩:=h.row j t q ht hq
    refine ⟨?_,h2,h3,hrow j t q ht hq⟩
    rw [World.cell?_setCell_other _ _ _ _ (by intro e;simp only [Addr.mk.injEq] at e;omega)]
    exact World.cell?_setCell_same w _ _ ci
   ·rw [if_neg e2] at hu hr
    obtain ⟨h1,h2,h3,_⟩:=h.row k u r hu hr
    refine ⟨?_,h2,h3,hrow k u r hu hr⟩
    rw [World.cell?_setCell_other _ _ _ _ (by intro e;simp only [Addr.mk.injEq] at e;omega),World.cell?_setCell_other _ _ _ _ (by intro e;simp only [Addr.mk.injEq] at e;omega)]
    exact h1
 ·have hn:=List.nodup_cons.1 h.nodup
  rw [swp_map]
  refine List.nodup_cons.2 ⟨?_,swp_nodup hn.2 i j⟩
  intro hm
  refine hn.1 ?_
  obtain ⟨k,hk⟩:=List.getElem?_of_mem hm
  have a1:(tags.map (·.1))[i]?=some s.1:=by rw [List.getElem?_map,hs];rfl
  have a2:(tags.map (·.1))[j]?=some t.1:=by rw [List.getElem?_map,ht];rfl
  rw [swp_get a1 a2] at hk
  by_cases e1:k=j
  ·rw [if_pos e1] at hk;cases hk;exact List.mem_of_getElem? a1
  ·rw [if_neg e1] at hk
   by_cases e2:k=i
   ·rw [if_pos e2] at hk;cases hk;exact List.mem_of_getElem? a2
   ·rw [if_neg e2] at hk;exact List.mem_of_getElem? hk
theorem swp_blocks {g0:Nat} {tags:List (Nat×Nat)} {i j b:Nat} {s t:Nat×Nat} (hs:tags[i]?=some s) (ht:tags[j]?=some t):blocksQ g0 (swp tags i j) b↔blocksQ g0 tags b:=by
 have key:∀ x:Nat×Nat,x∈swp tags i j↔x∈tags:=by
  intro x
  constructor
  ·intro hm
   obtain ⟨k,hk⟩:=List.getElem?_of_mem hm
   rw [swp_get hs ht] at hk
   by_cases e1:k=j
   ·rw [if_pos e1] at hk;cases hk;exact List.mem_of_getElem? hs
   ·rw [if_neg e1] at hk
    by_cases e2:k=i
    ·rw [if_pos e2] at hk;cases hk;exact List.mem_of_getElem? ht
    ·rw [if_neg e2] at hk;exact List.mem_of_getElem? hk
  ·intro hm
   obtain ⟨k,hk⟩:=List.getElem?_of_mem hm
   by_cases e1:k=i
   ·subst e1
    rw [hs] at hk;cases hk
    exact List.mem_of_getElem? (by rw [swp_get hs ht,if_pos rfl]:(swp tags k j)[j]?=some s)
   ·by_cases e2:k=j
    ·subst e2
     rw [ht] at hk;cases hk
     exact List.mem_of_getElem? (by rw [swp_get hs ht,if_neg (Ne.symm e1),if_pos rfl]:(swp tags i k)[i]?=some t)
    ·exact List.mem_of_getElem? (by rw [swp_get hs ht,if_neg e2,if_neg e1];exact hk:(swp tags i j)[k]?=some x)
 unfold blocksQ
 simp only [List.mem_cons,List.mem_map,key]
structure RowKind (α:Type) where
 R:World→Nat→List α→Prop
 lt:∀ {w g r},R w g r→g<w.heap.size
 same:∀ {w w' g r},R w g r→w.heap.size≤w'.heap.size→w'.heap[g]?=w.heap[g]?→R w' g r
def ratK:RowKind Rat:=⟨RowQ,fun h=>h.lt,fun h hs hg=>h.same hs hg⟩
structure RowI (w:World) (g:Nat) (xs:List Int):Prop where
 lt:g<w.heap.size
 cell:∀ (j:Nat) x,xs[j]?=some x→w.cell? ⟨g,j,none⟩=some (.int .i64 x)
 free:∀ j,w.frozen? ⟨g,j,none⟩=false
theorem RowI.same {w w':World} {g:Nat} {xs:List Int} (h:RowI w g xs) (hs:w.heap.size≤w'.heap.size) (hg:w'.heap[g]?=w.heap[g]?):RowI w' g xs :=
 ⟨Nat.lt_of_lt_of_le h.lt hs,fun j x hx=>(cell_of_heapQ hg _).trans (h.cell j x hx),fun j=>(free_of_heapQ hg j).trans (h.free j)⟩
def intK:RowKind Int:=⟨RowI,fun h=>h.lt,fun h hs hg=>h.same hs hg⟩
def tagQ (t:Nat×Nat) (n:Nat):Value:=.slice (some ⟨t.1,0,none⟩) n t.2
def tagQs {α:Type} (tags:List (Nat×Nat)) (m:List (List α)):List Value:=List.zipWith (fun t r=>tagQ t r.length) tags m
structure RowsO {α:Type} (K:RowKind α) (e:TypeId) (w:World) (ob base:Nat) (v:Value) (tags:List (Nat×Nat)) (m:List (List α)):Prop where
 len:tags.length=m.length
 own:w.ownsRow ob e 1 v m.length (tagQs tags m)
 row:∀ (i:Nat) t r,tags[i]?=some t→m[i]?=some r→r.length≤t.2∧t.2≤9223372036854775807∧K.R w t.1 r∧base≤t.1∧v.ownBlock≠some t.1
 nodup:(tags.map (·.1)).Nodup
theorem tagQs_len {α:Type} {tags:List (Nat×Nat)} {m:List (List α)} (h:tags.length=m.length):(tagQs tags m).length=m.length:=by
 unfold tagQs;rw [List.length_zipWith,h];omega
theorem RowsO.nil {α:Type} (K:RowKind α) (e:TypeId) (w:World) (ob base:Nat):RowsO K e w ob base (.slice none 0 0) [] [] :=
 ⟨rfl,World.ownsRow_nil _ _ _ _,by intro i t r h;simp at h,by simp⟩
theorem RowsO.ext {α:Type} {K:RowKind α} {e:TypeId} {w w':World} {ob base:Nat} {v:Value} {tags:List (Nat×Nat)} {m:List (List α)} (h:RowsO K e w ob base v tags m) (he:Ext w w'):RowsO K e w' ob base v tags m :=
 ⟨h.len,owns_ext h.own he,fun i t r ht hr=>by
  obtain ⟨h1,h2,h3,h4,h5⟩:=h.row i t r ht hr
  exact ⟨h1,h2,K.same h3 he.size (he.block _ (K.lt h3)),h4,h5⟩,h.nodup⟩
theorem RowsO.fresh {α:Type} {K:RowKind α} {e:TypeId} {w:World} {ob base:Nat} {v:Value} {tags:List (Nat×Nat)} {m:List (List α)} (h:RowsO K e w ob base v tags m) {b:Nat} (hb:b∈tags.map (·.1)):base≤b∧b<w.heap.size:=by
 obtain ⟨t,ht,rfl⟩:=List.mem_map.1 hb
 obtain ⟨i,hi⟩:=List.getElem?_of_mem ht
 have hl:i<m.length:=by rw [← h.len];exact (List.getElem?_eq_some_iff.1 hi).1
 obtain ⟨h1,h2,h3,h4,h5⟩:=h.row i t m[i] hi (List.getElem?_eq_getElem hl)
 exact ⟨h4,K.lt h3⟩
theorem RowsO.snoc {α:Type} {K:RowKind α} {e:TypeId} {w w':World} {ob base:Nat} {v v':Value} {tags:List (Nat×Nat)} {m:List (List α)} (h:RowsO K e w ob base v tags m) (t:Nat×Nat) (r:List α) (hr1:r.length≤t.2) (hr2:t.2≤9223372036854775807) (hR:K.R w t.1 r) (hb:base≤t.1) (hv:v.ownBlock≠some t.1) (hn:t.1∉tags.map (·.1))
  (hown:w'.ownsRow ob e 1 v' (m.length+1) (tagQs tags m++[tagQ t r.length])) (hg:w.grownBy w' v.ownBlock) (hat:v'.ownBlock=v.ownBlock∨∃ b,v'.ownBlock=some b∧w.heap.size≤b) :
  RowsO K e w' ob base v' (tags++[t]) (m++[r]):=by
 have hkeep:∀ (s:Nat×Nat) q,K.R w s.1 q→v.ownBlock≠some s.1→K.R w' s.1 q∧v'.ownBlock≠some s.1:=fun s q hs hvs=>by
  refine ⟨K.same hs hg.size (hg.block s.1 (K.lt hs) hvs.symm),fun e=>?_⟩
  rcases hat with e2 | ⟨b,e2,e3⟩
  ·exact hvs (e2.symm.trans e)
  ·rw [e2] at e;cases e;have:=K.lt hs;omega
 refine ⟨by simp [h.len],?_,fun i s q hs hq=>?_,?_⟩
 ·have e:tagQs (tags++[t]) (m++[r])=tagQs tags m++[tagQ t r.length]:=by
   unfold tagQs;rw [List.zipWith_append h.len];rfl
  rw [e,List.length_append];exact hown
 ·by_cases hi:i<tags.length
  ·rw [List.getElem?_append_left hi] at hs
   rw [List.getElem?_append_left (by rw [← h.len];exact hi)] at hq
   obtain ⟨h1,h2,h3,h4,h5⟩:=h.row i s q hs hq
   obtain ⟨k1,k2⟩:=hkeep s q h3 h5
   exact ⟨h1,h2,k1,h4,k2⟩
  ·rw [List.getElem?_append_right (by omega)] at hs
   rw [List.getElem?_append_right (by rw [← h.len];omega)] at hq
   have e1:i-tags.length=0:=by have:=(List.getElem?_eq_some_iff.1 hs).1;simp at this;omega
   have e2:i-m.length=0:=by rw [← h.len];exact e1
   rw [e1] at hs
   rw [e2] at hq
   simp only [List.getElem?_cons_zero,Option.some.injEq] at hs hq
   subst hs;subst hq
   obtain ⟨k1,k2⟩:=hkeep t r hR hv
   exact ⟨hr1,hr2,k1,hb,k2⟩
 ·rw [List.map_append,List.nodup_append]
  refine ⟨h.nodup,by simp,?_⟩
  intro a ha b hb2 e
  simp only [List.map_cons,List.map_nil,List.mem_singleton] at hb2
  subst e;subst hb2
  exact hn ha
theorem RowsO.parts {α:Type} {K:RowKind α} {e:TypeId} {w:World} {ob base:Nat} {g cap:Nat} {tags:List (Nat×Nat)} {m:List (List α)} (h:RowsO K e w ob base (.slice (some ⟨g,0,none⟩) m.length cap) tags m) :
  ob≤g∧g<w.heap.size∧(∀ j,w.frozen? ⟨g,j,none⟩=false)∧(∀ (i:Nat) t r,tags[i]?=some t→m[i]?=some r→w.cell? ⟨g,i,none⟩=some (.slice (some ⟨t.1,0,none⟩) r.length t.2)∧r.length≤t.2∧t.2≤9223372036854775807∧K.R w t.1 r)∧(g::tags.map (·.1)).Nodup∧m.length≤cap∧cap≤9223372036854775807:=by
 have hc:=h.own.cells (g:=g) (by simp [Value.ownBlock])
 have hf:=fun j=>h.own.frozenAt j
 rcases h.own.2 with ⟨hv,_⟩ | ⟨g',cap',cur,hv,hb,hg,h1,h2,h3,h4⟩
 ·simp at hv
 ·simp only [Value.slice.injEq,Option.some.injEq,Addr.mk.injEq] at hv
  obtain ⟨⟨rfl,-,-⟩,-,rfl⟩:=hv
  refine ⟨hb,(Array.getElem?_eq_some_iff.1 hg).1,fun j=>hf j,fun i t r ht hr=>?_,?_,h1,h2⟩
  ·obtain ⟨k1,k2,k3,k4,k5⟩:=h.row i t r ht hr
   refine ⟨?_,k1,k2,k3⟩
   have:=hc i (tagQ t r.length) (by unfold tagQs;rw [List.getElem?_zipWith,ht,hr])
   rw [show (⟨g,0,none⟩:Addr).add i=⟨g,i,none⟩ by unfold Addr.add;split <;> simp_all] at this
   exact this
  ·rw [List.nodup_cons]
   refine ⟨fun hm=>?_,h.nodup⟩
   obtain ⟨t,ht,rfl⟩:=List.mem_map.1 hm
   obtain ⟨i,hi⟩:=List.getElem?_of_mem ht
   have hl:i<m.length:=by rw [← h.len];exact (List.getElem?_eq_some_iff.1 hi).1
   exact (h.row i t m[i] hi (List.getElem?_eq_getElem hl)).2.2.2.2 rfl
theorem RowsO.matQ {e:TypeId} {w:World} {ob base:Nat} {g cap:Nat} {tags:List (Nat×Nat)} {m:List (List Rat)} (h:RowsO ratK e w ob base (.slice (some ⟨g,0,none⟩) m.length cap) tags m) (hob:base≤ob) :
  MatQ w g tags m∧m.length≤cap∧cap≤9223372036854775807∧∀ b,blocksQ g tags b→base≤b:=by
 obtain ⟨h1,h2,h3,h4,h5,h6,h7⟩:=h.parts
 refine ⟨⟨h.len,h2,h3,h4,h5⟩,h6,h7,fun b hb=>?_⟩
 rcases List.mem_cons.1 hb with rfl | hb
 ·exact Nat.le_trans hob h1
 ·exact (h.fresh hb).1
theorem wp_append_rowO {α:Type} {K:RowKind α} {e:TypeId} {T2:TypeId} (ht2:Tryz.prog.underlying T2=some (TypeDesc.slice e)) (hinfo:(Tryz.prog.info? e).map (fun i=>(i.zero,i.size,i.bytes))=some (some (.slice none 0 0),1,24)) (w:World) {o:Oper} {a:Act} {Q:Exit→Act→World→Prop} {L:Act→World→Prop}
  (s x:Operand) (ho:o.op=Op.call { callee:=Callee.builtin Builtin.append,args:=#[s,x],argTypes:=#[T2,T2] }) (ob base:Nat)
  (v:Value) (tags:List (Nat×Nat)) (m:List (List α)) (t:Nat×Nat) (r:List α) (u:Array Value) (T:TypeId) (hs:a.eval s=v) (hB:RowsO K e w ob base v tags m)
  (hx:a.eval x=.slice (some ⟨w.heap.size,0,none⟩) 1 1) (hu:u=#[tagQ t r.length]) (hr1:r.length≤t.2) (hr2:t.2≤9223372036854775807) (hR:K.R w t.1 r) (hb:base≤t.1) (hv:v.ownBlock≠some t.1) (hn:t.1∉tags.map (·.1))
  (hlen:m.length<1000000) (hbase:ob≤w.heap.size)
  (h:∀ v' w',RowsO K e w' ob base v' (tags++[t]) (m++[r])→Below ob w w'→Hid (∃ g c,v'=.slice (some ⟨g,0,none⟩) (m.length+1) c)→L (a.put o.dst v') w') :
  Oper.wp Tryz.prog o a (w.alloc (.cells u T)) L Q:=by
 subst hu
 obtain ⟨i0,hi,hz,hsize,hby⟩:=info_parts hinfo
 have hadd:∀ j,(⟨w.heap.size,0,none⟩:Addr).add j=⟨w.heap.size,j,none⟩:=by intro j;unfold Addr.add;split <;> simp_all
 have hE:Ext w (w.alloc (.cells #[tagQ t r.length] T)):=Ext.alloc _ _
 refine wp_append_own_at (w.alloc (.cells #[tagQ t r.length] T)) s x T2 ho ob e i0 (.slice none 0 0) 1 24 ht2 hi hz hsize hby rfl (by decide) v m.length (tagQs tags m) hs (owns_ext hB.own hE) ⟨w.heap.size,0,none⟩ 1 1 [tagQ t r.length] hx rfl ?_ ?_ ?_ ?_ ?_ ?_
 ·intro j q hq
  rw [hadd,World.cell?_alloc_new]
  simpa using hq
 ·intro u hu
  rw [List.mem_singleton.1 hu];rfl
 ·unfold maxLen;omega
 ·omega
 ·simp;omega
 ·intro v' w' hown hgrow _ hat
  have hLB:=(hB.ext hE).snoc t r hr1 hr2 (K.same hR hE.size (hE.block _ (K.lt hR))) hb hv hn hown hgrow (by
   rcases hat with h1 | h1
   ·exact .inl h1
   ·exact .inr ⟨_,h1,Nat.le_refl _⟩)
  refine h v' w' hLB ?_ ?_
  ·have hgw:w.grownBy w' v.ownBlock:=grown_trans (hE.grown _) hgrow
   refine ⟨hgw.os,hgw.tape,hgw.output,hgw.size,fun b hb2=>hgw.block b (by omega) ?_⟩
   intro e
   have:=(hB.own.lt b e.symm).1
   omega
  ·obtain ⟨g,c,hv',-⟩:=owns_shape hown (by omega)
   exact ⟨g,c,hv'⟩
theorem wpList_append_rowO {α:Type} {K:RowKind α} {e:TypeId} {T2:TypeId} (ht2:Tryz.prog.underlying T2=some (TypeDesc.slice e)) (hinfo:(Tryz.prog.info? e).map (fun i=>(i.zero,i.size,i.bytes))=some (some (.slice none 0 0),1,24)) (w:World) {ops:Array Oper} {rest:List Oper} {o:Oper} {a:Act} {Q:Exit→Act→World→Prop} (hgd:o.guard=none)
  (s x:Operand) (ho:o.op=Op.call { callee:=Callee.builtin Builtin.append,args:=#[s,x],argTypes:=#[T2,T2] }) (ob base:Nat)
  (v:Value) (tags:List (Nat×Nat)) (m:List (List α)) (t:Nat×Nat) (r:List α) (u:Array Value) (T:TypeId) (hs:a.eval s=v) (hB:RowsO K e w ob base v tags m)
  (hx:a.eval x=.slice (some ⟨w.heap.size,0,none⟩) 1 1) (hu:u=#[tagQ t r.length]) (hr1:r.length≤t.2) (hr2:t.2≤9223372036854775807) (hR:K.R w t.1 r) (hb:base≤t.1) (hv:v.ownBlock≠some t.1) (hn:t.1∉tags.map (·.1))
  (hlen:m.length<1000000) (hbase:ob≤w.heap.size)
  (h:∀ v' w',RowsO K e w' ob base v' (tags++[t]) (m++[r])→Below ob w w'→Hid (∃ g c,v'=.slice (some ⟨g,0,none⟩) (m.length+1) c)→wpList Tryz.prog ops Q rest (a.put o.dst v') w') :
  wpList Tryz.prog ops Q (o::rest) a (w.alloc (.cells u T)) :=
 wpList_plain hgd fun _ hK=>wp_append_rowO ht2 hinfo w s x ho ob base v tags m t r u T hs hB hx hu hr1 hr2 hR hb hv hn hlen hbase fun v' w' a1 a2 a3=>hK _ _ (h v' w' a1 a2 a3)
end Go.Proofs.YtjlkkofmojgipaaGreatDoor
