import Derived.Test.YtjlkkofmojgipaaGreatDoorPAA
import Derived.Test.YtjlkkofmojgipaaGreatDoorPAE
import Derived.Test.YtjlkkofmojgipaaGreatDoorPAB
import Derived.Test.YtjlkkofmojgipaaGreatDoorPAV
namespace Go.Proofs.YtjlkkofmojgipaaGreatDoor
set_option linter.unusedVariables false
set_option linter.unusedSimpArgs false
open Go.RowKit
def smB (n:Int):Bool:=decide ((numB n.natAbs).size≤1000000000)
def sm9B (n:Int):Bool:=decide ((numB n.natAbs).size≤400000000)
theorem smB_iff (n:Int):smB n=true↔(numB n.natAbs).size≤1000000000:=decide_eq_true_iff
theorem sm9B_iff (n:Int):sm9B n=true↔(numB n.natAbs).size≤400000000:=decide_eq_true_iff
def lessL (k:Int):List Int→List Int→List Int
 | r,[]=>r
 | [],_::_=>[]
 | a::r,b::s=>(a-k*b)::lessL k r s
theorem lessL_len (k:Int):∀ r s:List Int,(lessL k r s).length=r.length
 | [],[]=>rfl
 | a::r,[]=>rfl
 | [],_::_=>rfl
 | a::r,b::s=>by simp [lessL,lessL_len k r s]
theorem lessL_get (k:Int):∀ (r s:List Int) (j:Nat) (a b:Int),r[j]?=some a→s[j]?=some b→(lessL k r s)[j]?=some (a-k*b)
 | [],_,j,a,b,h,_=>by simp at h
 | _::_,[],j,a,b,_,h=>by simp at h
 | x::r,y::s,0,a,b,h,h'=>by simp at h h';subst h;subst h';rfl
 | x::r,y::s,j+1,a,b,h,h'=>by
  simp only [List.getElem?_cons_succ] at h h'
  exact lessL_get k r s j a b h h'
def lessO (k:Int) (r s:List Int):Option (List Int) :=
 if k=0 then some r
 else if s.length=r.length∧(sm9B k && s.all sm9B && r.all smB)=true then some (lessL k r s) else none
def rowE_ (m:List (List Int)) (i:Nat):List Int:=m.getD i []
def getE (m:List (List Int)) (i c:Nat):Int:=(rowE_ m i).getD c 0
def bestO (c d:Nat) (m:List (List Int)):Nat→Option Nat
 | 0=>none
 | k+1=>match bestO c d m k with
  | none=>if getE m (d+k) c=0 then none else some (d+k)
  | some a=>if getE m (d+k) c≠0∧(getE m (d+k) c).natAbs<(getE m a c).natAbs then some (d+k) else some a
def swapL {α:Type} (l:List α) (i j:Nat):List α:=match l[i]?,l[j]? with
 | some a,some b=>(l.set i b).set j a
 | _,_=>l
def downO (c d:Nat) (m:List (List Int)):Nat→Option (List (List Int)×Bool)
 | 0=>some (m,false)
 | j+1=>match downO c d m j with
  | none=>none
  | some (m',rest) =>
   if getE m' d c=0 then none
   else match lessO (fdq (getE m' (d+1+j) c) (getE m' d c)) (rowE_ m' (d+1+j)) (rowE_ m' d) with
    | none=>none
    | some r=>some (m'.set (d+1+j) r,rest || decide (fdr (getE m' (d+1+j) c) (getE m' d c)≠0))
def upO (c d:Nat) (m:List (List Int)):Nat→Option (List (List Int))
 | 0=>some m
 | j+1=>match upO c d m j with
  | none=>none
  | some m' =>
   if getE m' d c=0 then none
   else match lessO (fdq (getE m' j c) (getE m' d c)) (rowE_ m' j) (rowE_ m' d) with
    | none=>none
    | some r=>some (m'.set j r)
def okM (n:Nat) (m:List (List Int)):Bool:=m.all fun r=>decide (r.length=n) && r.all smB
def sweepO (n c d:Nat):Nat→List (List Int)→Option (List (List Int)×Bool)
 | 0,_=>none
 | f+1,m =>
  if okM n m then
   match bestO c d m (m.length-d) with
   | none=>some (m,false)
   | some a=>match downO c d (swapL m d a) (m.length-(d+1)) with
    | none=>none
    | some (m2,true)=>sweepO n c d f m2
    | some (m2,false) =>
     if okM n m2 then
      match upO c d (if getE m2 d c<0 then m2.set d ((rowE_ m2 d).map (- ·)) else m2) d with
      | none=>none
      | some m4=>some (m4,true)
     else none
  else none
def colsO (n F:Nat):Nat→Nat→Nat→List (List Int)→Option (List (List Int)×Nat)
 | 0,_,d,m=>some (m,d)
 | k+1,c,d,m =>
  if d<m.length then
   match sweepO n c d F m with
   | none=>none
   | some (m',p)=>colsO n F k (c+1) (if p then d+1 else d) m'
  else some (m,d)
structure RowB (w:World) (g o:Nat) (xs:List Int):Prop where
 lt:g<w.heap.size
 cell:∀ (j:Nat) x,xs[j]?=some x→w.cell? ⟨g,o+j,none⟩=some (.string (intB x))
 free:∀ j,w.frozen? ⟨g,j,none⟩=false
theorem cell_of_heap {w w':World} {g:Nat} (h:w'.heap[g]?=w.heap[g]?) (j:Nat):w'.cell? ⟨g,j,none⟩=w.cell? ⟨g,j,none⟩:=by
 simp [World.cell?,h]
theorem free_of_heap {w w':World} {g:Nat} (h:w'.heap[g]?=w.heap[g]?) (j:Nat):w'.frozen? ⟨g,j,none⟩=w.frozen? ⟨g,j,none⟩:=by
 simp [World.frozen?,h]
theorem RowB.same {w w':World} {g o:Nat} {xs:List Int} (h:RowB w g o xs) (hs:w.heap.size≤w'.heap.size) (hg:w'.heap[g]?=w.heap[g]?):RowB w' g o xs :=
 ⟨Nat.lt_of_lt_of_le h.lt hs,fun j x hx=>(cell_of_heap hg _).trans (h.cell j x hx),fun j=>(free_of_heap hg j).trans (h.free j)⟩
theorem RowB.ext {w w':World} {g o:Nat} {xs:List Int} (h:RowB w g o xs) (he:Ext w w'):RowB w' g o xs:=h.same he.size (he.block g h.lt)
theorem RowB.grown {w w':World} {S:Nat→Prop} {g o:Nat} {xs:List Int} (h:RowB w g o xs) (hg:GrownS S w w') (hS:¬ S g):RowB w' g o xs:=h.same hg.size (hg.block g h.lt hS)
theorem setCell_heap_other (w:World) (g i b:Nat) (v:Value) (h:b≠g):(w.setCell ⟨g,i,none⟩ v).heap[b]?=w.heap[b]?:=by
 by_cases hb:b<w.heap.size
 ·exact (grown_setCell w g i v).block b hb (fun e=>h (by cases e;rfl))
 ·have:(w.setCell ⟨g,i,none⟩ v).heap.size=w.heap.size:=by simp [World.setCell]
  rw [Array.getElem?_eq_none (by omega),Array.getElem?_eq_none (by omega)]
theorem setCell_size (w:World) (a:Addr) (v:Value):(w.setCell a v).heap.size=w.heap.size:=by simp [World.setCell]
theorem setCell_free (w:World) (g i j:Nat) (v:Value):(w.setCell ⟨g,i,none⟩ v).frozen? ⟨g,j,none⟩=w.frozen? ⟨g,j,none⟩:=by
 exact World.frozen?_setCell ..
theorem RowB.set {w:World} {g o:Nat} {xs:List Int} (h:RowB w g o xs) (k:Nat) (hk:k<xs.length) (y:Int):RowB (w.setCell ⟨g,o+k,none⟩ (.string (intB y))) g o (xs.set k y):=by
 refine ⟨by rw [setCell_size];exact h.lt,fun j x hx=>?_,fun j=>by rw [setCell_free];exact h.free j⟩
 rw [List.getElem?_set] at hx
 by_cases hj:k=j
 ·subst hj
  rw [if_pos rfl,if_pos hk] at hx
  cases hx
  exact World.cell?_setCell_same w _ _ (h.cell k xs[k] (List.getElem?_eq_getElem hk))
 ·rw [if_neg hj] at hx
  rw [World.cell?_setCell_other w _ _ _ (by intro e;simp only [Addr.mk.injEq] at e;omega)]
  exact h.cell j x hx
theorem RowB.other {w:World} {g o:Nat} {xs:List Int} (h:RowB w g o xs) (b i:Nat) (v:Value) (hb:g≠b):RowB (w.setCell ⟨b,i,none⟩ v) g o xs :=
 h.same (by rw [setCell_size];exact Nat.le_refl _) (setCell_heap_other w b i g v hb)
structure MatB (w:World) (g0:Nat) (tags:List (Nat×Nat×Nat)) (m:List (List Int)):Prop where
 len:tags.length=m.length
 lt:g0<w.heap.size
 free:∀ j,w.frozen? ⟨g0,j,none⟩=false
 row:∀ (i:Nat) t r,tags[i]?=some t→m[i]?=some r→w.cell? ⟨g0,i,none⟩=some (.slice (some ⟨t.1,t.2.1,none⟩) r.length t.2.2)∧r.length≤t.2.2∧t.2.2≤maxLen∧RowB w t.1 t.2.1 r
 nodup:(g0::tags.map (·.1)).Nodup
def blocksOf (g0:Nat) (tags:List (Nat×Nat×Nat)) (b:Nat):Prop:=b∈g0::tags.map (·.1)
theorem MatB.same {w w':World} {g0:Nat} {tags:List (Nat×Nat×Nat)} {m:List (List Int)} (h:MatB w g0 tags m) (hs:w.heap.size≤w'.heap.size) (hb:∀ b,blocksOf g0 tags b→w'.heap[b]?=w.heap[b]?):MatB w' g0 tags m:=by
 have h0:=hb g0 (List.mem_cons_self ..)
 refine ⟨h.len,Nat.lt_of_lt_of_le h.lt hs,fun j=>(free_of_heap h0 j).trans (h.free j),fun i t r ht hr=>?_,h.nodup⟩
 obtain ⟨h1,h2,h3,h4⟩:=h.row i t r ht hr
 exact ⟨(cell_of_heap h0 i).trans h1,h2,h3,h4.same hs (hb t.1 (List.mem_cons_of_mem _ (List.mem_map.2 ⟨t,List.mem_of_getElem? ht,rfl⟩)))⟩
theorem MatB.blt {w:World} {g0:Nat} {tags:List (Nat×Nat×Nat)} {m:List (List Int)} (h:MatB w g0 tags m) {b:Nat} (hb:blocksOf g0 tags b):b<w.heap.size:=by
 rcases List.mem_cons.1 hb with rfl | hb
 ·exact h.lt
 ·obtain ⟨t,ht,rfl⟩:=List.mem_map.1 hb
  obtain ⟨i,hi⟩:=List.getElem?_of_mem ht
  have hl:i<m.length:=by rw [← h.len];exact (List.getElem?_eq_some_iff.1 hi).1
  exact (h.row i t m[i] hi (List.getElem?_eq_getElem hl)).2.2.2.lt
theorem MatB.ext {w w':World} {g0:Nat} {tags:List (Nat×Nat×Nat)} {m:List (List Int)} (h:MatB w g0 tags m) (he:Ext w w'):MatB w' g0 tags m :=
 h.same he.size fun b hb=>he.block b (h.blt hb)
theorem MatB.get {w:World} {g0:Nat} {tags:List (Nat×Nat×Nat)} {m:List (List Int)} (h:MatB w g0 tags m) (i:Nat) (hi:i<m.length) :
  ∃ t,tags[i]?=some t∧w.cell? ⟨g0,i,none⟩=some (.slice (some ⟨t.1,t.2.1,none⟩) (rowE_ m i).length t.2.2)∧(rowE_ m i).length≤t.2.2∧t.2.2≤maxLen∧RowB w t.1 t.2.1 (rowE_ m i)∧t.1≠g0:=by
 have hl:i<tags.length:=by rw [h.len];exact hi
 have e:rowE_ m i=m[i]:=by unfold rowE_;rw [List.getD_eq_getElem?_getD,List.getElem?_eq_getElem hi];rfl
 have:=h.row i tags[i] m[i] (List.getElem?_eq_getElem hl) (List.getElem?_eq_getElem hi)
 refine ⟨tags[i],List.getElem?_eq_getElem hl,?_⟩
 rw [e]
 refine ⟨this.1,this.2.1,this.2.2.1,this.2.2.2,?_⟩
 have hn:=(List.nodup_cons.1 h.nodup).1
 intro e2
 exact hn (List.mem_map.2 ⟨tags[i],List.getElem_mem hl,e2⟩)
theorem MatB.apart {w:World} {g0:Nat} {tags:List (Nat×Nat×Nat)} {m:List (List Int)} (h:MatB w g0 tags m) {i j:Nat} {s t:Nat×Nat×Nat} (hs:tags[i]?=some s) (ht:tags[j]?=some t) (hij:i≠j):s.1≠t.1:=by
 have hn:=(List.nodup_cons.1 h.nodup).2
 intro e
 have h1:(tags.map (·.1))[i]?=some s.1:=by rw [List.getElem?_map,hs];rfl
 have h2:(tags.map (·.1))[j]?=some s.1:=by rw [List.getElem?_map,ht,e];rfl
 obtain ⟨l1,e1⟩:=List.getElem?_eq_some_iff.1 h1
 obtain ⟨l2,e2⟩:=List.getElem?_eq_some_iff.1 h2
 exact hij ((List.getElem_inj hn).1 (e1.trans e2.symm))
theorem MatB.setRow {w w':World} {g0:Nat} {tags:List (Nat×Nat×Nat)} {m:List (List Int)} (h:MatB w g0 tags m) (i:Nat) (hi:i<m.length) (t:Nat×Nat×Nat) (ht:tags[i]?=some t) (r:List Int) (hr:r.length=(rowE_ m i).length) (hg:GrownS (·=t.1) w w') (hR:RowB w' t.1 t.2.1 r):MatB w' g0 tags (m.set i r):=by
 obtain ⟨t',ht',-,-,-,-,hne⟩:=h.get i hi
 obtain rfl:t'=t:=Option.some.inj (ht'.symm.trans ht)
 have h0:=hg.block g0 h.lt (fun e=>hne e.symm)
 refine ⟨by rw [List.length_set];exact h.len,Nat.lt_of_lt_of_le h.lt hg.size,fun j=>(free_of_heap h0 j).trans (h.free j),fun j s q hs hq=>?_,h.nodup⟩
 rw [List.getElem?_set] at hq
 by_cases hj:i=j
 ·subst hj
  rw [if_pos rfl,if_pos hi] at hq
  cases hq
  obtain rfl:s=t':=Option.some.inj (hs.symm.trans ht)
  have e:rowE_ m i=m[i]:=by unfold rowE_;rw [List.getD_eq_getElem?_getD,List.getElem?_eq_getElem hi];rfl
  obtain ⟨h1,h2,h3,h4⟩:=h.row i s m[i] hs (List.getElem?_eq_getElem hi)
  rw [← e,← hr] at h1 h2
  exact ⟨(cell_of_heap h0 i).trans h1,h2,h3,hR⟩
 ·rw [if_neg hj] at hq
  obtain ⟨h1,h2,h3,h4⟩:=h.row j s q hs hq
  exact ⟨(cell_of_heap h0 j).trans h1,h2,h3,h4.grown hg (h.apart hs ht (fun e=>hj e.symm))⟩
theorem rowE_get {m:List (List Int)} {i:Nat} (hi:i<m.length):m[i]?=some (rowE_ m i):=by
 unfold rowE_;rw [List.getD_eq_getElem?_getD,List.getElem?_eq_getElem hi];rfl
theorem rowE_of {m:List (List Int)} {i:Nat} {r:List Int} (h:m[i]?=some r):rowE_ m i=r:=by
 unfold rowE_;rw [List.getD_eq_getElem?_getD,h];rfl
theorem rowE_set {m:List (List Int)} {i j:Nat} {r:List Int} (hi:i<m.length):rowE_ (m.set i r) j=if j=i then r else rowE_ m j:=by
 unfold rowE_
 rw [List.getD_eq_getElem?_getD,List.getD_eq_getElem?_getD,List.getElem?_set]
 by_cases h:i=j
 ·subst h;rw [if_pos rfl,if_pos rfl,if_pos hi];rfl
 ·rw [if_neg h,if_neg (fun e=>h e.symm)]
theorem swapL_len {α:Type} (l:List α) (i j:Nat):(swapL l i j).length=l.length:=by
 unfold swapL;split <;> simp
theorem swapL_eq {α:Type} {l:List α} {i j:Nat} {a b:α} (hi:l[i]?=some a) (hj:l[j]?=some b):swapL l i j=(l.set i b).set j a:=by
 unfold swapL;rw [hi,hj]
theorem swapL_mem {α:Type} (l:List α) (i j:Nat) (x:α) (h:x∈swapL l i j):x∈l:=by
 unfold swapL at h
 cases hi:l[i]? with
 | none=>rw [hi] at h;exact h
 | some a =>
  cases hj:l[j]? with
  | none=>rw [hi,hj] at h;exact h
  | some b =>
   rw [hi,hj] at h
   rcases List.mem_or_eq_of_mem_set h with h | h
   ·rcases List.mem_or_eq_of_mem_set h with h | h
    ·exact h
    ·rw [h];exact List.mem_of_getElem? hj
   ·rw [h];exact List.mem_of_getElem? hi
theorem swapL_map {α β:Type} (f:α→β) (l:List α) (i j:Nat):(swapL l i j).map f=swapL (l.map f) i j:=by
 unfold swapL
 rw [List.getElem?_map,List.getElem?_map]
 cases l[i]? with
 | none=>rfl
 | some a=>cases l[j]? with
  | none=>rfl
  | some b=>simp [List.map_set]
theorem okM_swap {n:Nat} {m:List (List Int)} (h:okM n m=true) (i j:Nat):okM n (swapL m i j)=true:=by
 unfold okM at h ⊢
 rw [List.all_eq_true] at h ⊢
 exact fun x hx=>h x (swapL_mem m i j x hx)
theorem okM_row {n:Nat} {m:List (List Int)} (h:okM n m=true) (i:Nat) (hi:i<m.length):(rowE_ m i).length=n∧(rowE_ m i).all smB=true:=by
 unfold okM at h
 have:=List.all_eq_true.1 h (rowE_ m i) (List.mem_of_getElem? (rowE_get hi))
 rw [Bool.and_eq_true,decide_eq_true_iff] at this
 exact this
theorem lessO_len {k:Int} {r s r':List Int} (h:lessO k r s=some r'):r'.length=r.length:=by
 unfold lessO at h
 split at h
 ·rw [← Option.some.inj h]
 ·split at h
  ·rw [← Option.some.inj h];exact lessL_len k r s
  ·cases h
theorem downO_succ (c d:Nat) (m:List (List Int)) (j:Nat):downO c d m (j+1)=match downO c d m j with
  | none=>none
  | some (m',rest) =>
   if getE m' d c=0 then none
   else match lessO (fdq (getE m' (d+1+j) c) (getE m' d c)) (rowE_ m' (d+1+j)) (rowE_ m' d) with
    | none=>none
    | some r=>some (m'.set (d+1+j) r,rest || decide (fdr (getE m' (d+1+j) c) (getE m' d c)≠0)):=rfl
theorem downO_step {c d j:Nat} {m:List (List Int)} {y:List (List Int)×Bool} (h:downO c d m (j+1)=some y) :
  ∃ m' rest r,downO c d m j=some (m',rest)∧getE m' d c≠0∧lessO (fdq (getE m' (d+1+j) c) (getE m' d c)) (rowE_ m' (d+1+j)) (rowE_ m' d)=some r∧y=(m'.set (d+1+j) r,rest || decide (fdr (getE m' (d+1+j) c) (getE m' d c)≠0)):=by
 rw [downO_succ] at h
 cases hd:downO c d m j with
 | none=>rw [hd] at h;cases h
 | some p =>
  obtain ⟨m',rest⟩:=p
  rw [hd] at h
  simp only at h
  by_cases h0:getE m' d c=0
  ·rw [if_pos h0] at h;cases h
  ·rw [if_neg h0] at h
   cases hl:lessO (fdq (getE m' (d+1+j) c) (getE m' d c)) (rowE_ m' (d+1+j)) (rowE_ m' d) with
   | none=>rw [hl] at h;cases h
   | some r =>
    rw [hl] at h
    exact ⟨m',rest,r,rfl,h0,hl,(Option.some.inj h).symm⟩
theorem downO_some {c d : Nat} {m : List (List Int)} {k : Nat} : ∀ {y}, downO c d m k = some y → ∀ j, j ≤ k → ∃ z, downO c d m j = some z := by
  induction k with
  | zero => intro y h j hj; obtain rfl : j = 0 := by omega
            exact ⟨y, h⟩
  | succ k ih =>
    intro y h j hj
    by_cases he : j = k + 1
    · subst he; exact ⟨y, h⟩
    · obtain ⟨m', rest, r, h1, -⟩ := downO_step h
      exact ih h1 j (by omega)
theorem downO_keep {c d:Nat} {m:List (List Int)} {k:Nat}:∀ {m' rest},downO c d m k=some (m',rest)→d+1+k≤m.length→m'.length=m.length∧(∀ i,i≤d∨d+1+k≤i→rowE_ m' i=rowE_ m i)∧(∀ i,(rowE_ m' i).length=(rowE_ m i).length):=by
 induction k with
 | zero =>
  intro m' rest h hk
  have h:some (m,false)=some (m',rest):=h
  simp only [Option.some.injEq,Prod.mk.injEq] at h
  obtain ⟨rfl,-⟩:=h
  exact ⟨rfl,fun _ _=>rfl,fun _=>rfl⟩
 | succ k ih =>
  intro m' rest h hk
  obtain ⟨m1,r1,r,h1,h2,h3,h4⟩:=downO_step h
  obtain ⟨l1,l2,l3⟩:=ih h1 (by omega)
  simp only [Prod.mk.injEq] at h4
  obtain ⟨rfl,-⟩:=h4
  have hi:d+1+k<m1.length:=by omega
  refine ⟨by rw [List.length_set];exact l1,fun i hi2=>?_,fun i=>?_⟩
  ·rw [rowE_set hi,if_neg (by omega)];exact l2 i (by omega)
  ·rw [rowE_set hi]
   by_cases he:i=d+1+k
   ·rw [if_pos he,he,lessO_len h3];exact l3 _
   ·rw [if_neg he];exact l3 i
theorem upO_succ (c d:Nat) (m:List (List Int)) (j:Nat):upO c d m (j+1)=match upO c d m j with
  | none=>none
  | some m' =>
   if getE m' d c=0 then none
   else match lessO (fdq (getE m' j c) (getE m' d c)) (rowE_ m' j) (rowE_ m' d) with
    | none=>none
    | some r=>some (m'.set j r):=rfl
theorem upO_step {c d j:Nat} {m:List (List Int)} {y:List (List Int)} (h:upO c d m (j+1)=some y) :
  ∃ m' r,upO c d m j=some m'∧getE m' d c≠0∧lessO (fdq (getE m' j c) (getE m' d c)) (rowE_ m' j) (rowE_ m' d)=some r∧y=m'.set j r:=by
 rw [upO_succ] at h
 cases hd:upO c d m j with
 | none=>rw [hd] at h;cases h
 | some m' =>
  rw [hd] at h
  simp only at h
  by_cases h0:getE m' d c=0
  ·rw [if_pos h0] at h;cases h
  ·rw [if_neg h0] at h
   cases hl:lessO (fdq (getE m' j c) (getE m' d c)) (rowE_ m' j) (rowE_ m' d) with
   | none=>rw [hl] at h;cases h
   | some r =>
    rw [hl] at h
    exact ⟨m',r,rfl,h0,hl,(Option.some.inj h).symm⟩
theorem upO_some {c d : Nat} {m : List (List Int)} {k : Nat} : ∀ {y}, upO c d m k = some y → ∀ j, j ≤ k → ∃ z, upO c d m j = some z := by
  induction k with
  | zero => intro y h j hj; obtain rfl : j = 0 := by omega
            exact ⟨y, h⟩
  | succ k ih =>
    intro y h j hj
    by_cases he : j = k + 1
    · subst he; exact ⟨y, h⟩
    · obtain ⟨m', r, h1, -⟩ := upO_step h
      exact ih h1 j (by omega)
theorem upO_keep {c d:Nat} {m:List (List Int)} {k:Nat}:∀ {m'},upO c d m k=some m'→k≤d→d<m.length→m'.length=m.length∧(∀ i,k≤i→rowE_ m' i=rowE_ m i)∧(∀ i,(rowE_ m' i).length=(rowE_ m i).length):=by
 induction k with
 | zero =>
  intro m' h hk hd
  have h:some m=some m':=h
  obtain rfl:=Option.some.inj h
  exact ⟨rfl,fun _ _=>rfl,fun _=>rfl⟩
 | succ k ih =>
  intro m' h hk hd
  obtain ⟨m1,r,h1,h2,h3,rfl⟩:=upO_step h
  obtain ⟨l1,l2,l3⟩:=ih h1 (by omega) hd
  have hi:k<m1.length:=by omega
  refine ⟨by rw [List.length_set];exact l1,fun i hi2=>?_,fun i=>?_⟩
  ·rw [rowE_set hi,if_neg (by omega)];exact l2 i (by omega)
  ·rw [rowE_set hi]
   by_cases he:i=k
   ·rw [if_pos he,he,lessO_len h3];exact l3 _
   ·rw [if_neg he];exact l3 i
theorem swapL_perm {α:Type} [DecidableEq α] (l:List α) (i j:Nat):(swapL l i j).Perm l:=by
 cases hi:l[i]? with
 | none=>unfold swapL;rw [hi]
 | some a =>
  cases hj:l[j]? with
  | none=>unfold swapL;rw [hi,hj]
  | some b =>
   rw [swapL_eq hi hj,List.perm_iff_count]
   intro x
   have h1:=(List.getElem?_eq_some_iff.1 hi)
   have h2:=(List.getElem?_eq_some_iff.1 hj)
   obtain ⟨l1,e1⟩:=h1
   obtain ⟨l2,e2⟩:=h2
   have h2':j<(l.set i b).length:=by rw [List.length_set];exact l2
   rw [List.count_set h2',List.count_set l1]
   by_cases hij:i=j
   ·subst hij
    rw [List.getElem_set_self]
    rw [e1] at e2;subst e2
    rw [e1]
    have:(if a == x then 1 else 0)≤l.count x:=by
     split
     ·rename_i hx
      rw [← beq_iff_eq.1 hx]
      exact List.count_pos_iff.2 (List.mem_of_getElem? hi)
     ·exact Nat.zero_le _
    omega
   ·rw [List.getElem_set_ne hij,e1,e2]
    have k1:(if a == x then 1 else 0)≤l.count x:=by
     split
     ·rename_i hx
      rw [← beq_iff_eq.1 hx]
      exact List.count_pos_iff.2 (List.mem_of_getElem? hi)
     ·exact Nat.zero_le _
    have k2:(if b == x then 1 else 0)≤l.count x:=by
     split
     ·rename_i hx
      rw [← beq_iff_eq.1 hx]
      exact List.count_pos_iff.2 (List.mem_of_getElem? hj)
     ·exact Nat.zero_le _
    omega
theorem MatB.swap {w:World} {g0:Nat} {tags:List (Nat×Nat×Nat)} {m:List (List Int)} (h:MatB w g0 tags m) (d a:Nat) (hd:d<m.length) (ha:a<m.length) (td ta:Nat×Nat×Nat) (htd:tags[d]?=some td) (hta:tags[a]?=some ta) :
  MatB ((w.setCell ⟨g0,d,none⟩ (.slice (some ⟨ta.1,ta.2.1,none⟩) (rowE_ m a).length ta.2.2)).setCell ⟨g0,a,none⟩ (.slice (some ⟨td.1,td.2.1,none⟩) (rowE_ m d).length td.2.2)) g0 (swapL tags d a) (swapL m d a):=by
 obtain ⟨td',htd',c1,c2,c3,c4,c5⟩:=h.get d hd
 obtain rfl:td'=td:=Option.some.inj (htd'.symm.trans htd)
 obtain ⟨ta',hta',e1,e2,e3,e4,e5⟩:=h.get a ha
 obtain rfl:ta'=ta:=Option.some.inj (hta'.symm.trans hta)
 have hmd:=rowE_get hd
 have hma:=rowE_get ha
 rw [swapL_eq htd hta,swapL_eq hmd hma]
 obtain ⟨w1,hw1⟩:∃ w1,w1=(w.setCell ⟨g0,d,none⟩ (.slice (some ⟨ta'.1,ta'.2.1,none⟩) (rowE_ m a).length ta'.2.2)).setCell ⟨g0,a,none⟩ (.slice (some ⟨td'.1,td'.2.1,none⟩) (rowE_ m d).length td'.2.2):=⟨_,rfl⟩
 have hsz:w1.heap.size=w.heap.size:=by rw [hw1,setCell_size,setCell_size]
 have hoth:∀ b,b≠g0→w1.heap[b]?=w.heap[b]?:=fun b hb=>by rw [hw1,setCell_heap_other _ _ _ _ _ hb,setCell_heap_other _ _ _ _ _ hb]
 have hfr:∀ j,w1.frozen? ⟨g0,j,none⟩=false:=fun j=>by rw [hw1,setCell_free,setCell_free];exact h.free j
 have hca:w1.cell? ⟨g0,a,none⟩=some (.slice (some ⟨td'.1,td'.2.1,none⟩) (rowE_ m d).length td'.2.2):=by
  rw [hw1]
  by_cases hda:d=a
  ·subst hda
   exact World.cell?_setCell_same _ _ _ (World.cell?_setCell_same w _ _ c1)
  ·exact World.cell?_setCell_same _ _ _ ((World.cell?_setCell_other w _ _ _ (by intro e;simp only [Addr.mk.injEq] at e;exact hda e.2.1)).trans e1)
 have hcd:d≠a→w1.cell? ⟨g0,d,none⟩=some (.slice (some ⟨ta'.1,ta'.2.1,none⟩) (rowE_ m a).length ta'.2.2):=fun hda=>by
  rw [hw1,World.cell?_setCell_other _ _ _ _ (by intro e;simp only [Addr.mk.injEq] at e;exact hda e.2.1.symm)]
  exact World.cell?_setCell_same w _ _ c1
 have hco:∀ j,j≠d→j≠a→w1.cell? ⟨g0,j,none⟩=w.cell? ⟨g0,j,none⟩:=fun j hjd hja=>by
  rw [hw1,World.cell?_setCell_other _ _ _ _ (by intro e;simp only [Addr.mk.injEq] at e;exact hja e.2.1.symm),World.cell?_setCell_other _ _ _ _ (by intro e;simp only [Addr.mk.injEq] at e;exact hjd e.2.1.symm)]
 rw [← hw1]
 clear hw1
 have hrow:∀ (t:Nat×Nat×Nat) r,t.1≠g0→RowB w t.1 t.2.1 r→RowB w1 t.1 t.2.1 r:=fun t r ht hr=>hr.same (by omega) (hoth t.1 ht)
 refine ⟨by simp only [List.length_set];exact h.len,by rw [hsz];exact h.lt,hfr,fun i t r ht hr=>?_,?_⟩
 ·have hlt:tags.length=m.length:=h.len
  by_cases hia:i=a
  ·subst hia
   rw [List.getElem?_set_self (by rw [List.length_set];omega)] at ht
   rw [List.getElem?_set_self (by rw [List.length_set];omega)] at hr
   obtain rfl:=Option.some.inj ht
   obtain rfl:=Option.some.inj hr
   exact ⟨hca,c2,c3,hrow _ _ c5 c4⟩
  ·rw [List.getElem?_set_ne (fun e=>hia e.symm)] at ht hr
   by_cases hid:i=d
   ·subst hid
    rw [List.getElem?_set_self (by omega)] at ht
    rw [List.getElem?_set_self (by omega)] at hr
    obtain rfl:=Option.some.inj ht
    obtain rfl:=Option.some.inj hr
    exact ⟨hcd hia,e2,e3,hrow _ _ e5 e4⟩
   ·rw [List.getElem?_set_ne (fun e=>hid e.symm)] at ht hr
    obtain ⟨k1,k2,k3,k4⟩:=h.row i t r ht hr
    have hne:t.1≠g0:=by
     intro e
     exact (List.nodup_cons.1 h.nodup).1 (List.mem_map.2 ⟨t,List.mem_of_getElem? ht,e⟩)
    exact ⟨(hco i hid hia).trans k1,k2,k3,hrow _ _ hne k4⟩
 ·have hn:=List.nodup_cons.1 h.nodup
  rw [List.nodup_cons]
  have hsw:((tags.set d ta').set a td').map (·.1)=swapL (tags.map (·.1)) d a:=by
   rw [← swapL_eq htd hta,swapL_map]
  rw [hsw]
  refine ⟨fun hm=>hn.1 (swapL_mem _ _ _ _ hm),?_⟩
  have hp:(swapL (tags.map (·.1)) d a).Perm (tags.map (·.1)):=swapL_perm _ _ _
  exact hp.nodup_iff.2 hn.2
def Sz (n:Int):Prop:=(numB n.natAbs).size≤1000000000
def Sz9 (n:Int):Prop:=(numB n.natAbs).size≤400000000
theorem sm_of {n:Int} (h:smB n=true):Sz n:=(smB_iff n).1 h
theorem sm9_of {n:Int} (h:sm9B n=true):Sz9 n:=(sm9B_iff n).1 h
theorem Sz.size {n:Int} (h:Sz n):(intB n).size≤1000000001:=by
 unfold Sz at h;have:=intB_size_le n;omega
theorem Sz9.size {n:Int} (h:Sz9 n):(intB n).size≤400000001:=by
 unfold Sz9 at h;have:=intB_size_le n;omega
theorem Sz.natAbs {n:Int} (h:Sz n):Sz (n.natAbs:Int):=by
 unfold Sz at h ⊢;rw [Int.natAbs_natCast];exact h
theorem Sz.neg {n:Int} (h:Sz n):Sz (-n):=by
 unfold Sz at h ⊢;rw [Int.natAbs_neg];exact h
theorem mul_size (x y:Int):(intB (x*y)).size≤(intB x).size+(intB y).size+1:=by
 have h1:=intB_size_le (x*y)
 have h2:=natAbs_le x
 have h3:=natAbs_le y
 have h4:=num_mul_size x.natAbs y.natAbs
 rw [Int.natAbs_mul] at h1
 omega
theorem divModZ (x y:Int) (w:World) (hx:Sz x) (hy:Sz y) (h0:y≠0) (ht:Pow10 w) :
  Calls Tryz.prog 94 #[.string (intB x),.string (intB y)] w fun e w'=>e=.returned (.tuple #[.string (intB (fdq x y)),.string (intB (fdr x y)),.int .i64 0])∧Ext w w' :=
 divModI_any x y w (by have:=hx.size;omega) (by have:=hy.size;omega) h0 ht
theorem sign_cmp (x y:Int) (h:x.sign≠y.sign):(x.sign<y.sign↔x<y)∧x≠y:=by
 rcases Int.lt_trichotomy x 0 with hx | hx | hx <;> rcases Int.lt_trichotomy y 0 with hy | hy | hy
 all_goals first
  | (rw [Int.sign_eq_neg_one_of_neg hx] at h ⊢) | (rw [hx] at h ⊢;rw [show (0:Int).sign=0 from rfl] at h ⊢) | (rw [Int.sign_eq_one_of_pos hx] at h ⊢)
 all_goals first
  | (rw [Int.sign_eq_neg_one_of_neg hy] at h ⊢) | (rw [hy] at h ⊢;rw [show (0:Int).sign=0 from rfl] at h ⊢) | (rw [Int.sign_eq_one_of_pos hy] at h ⊢)
 all_goals first | (exact absurd rfl h) | omega
def cmpI (x y:Int):Int:=if x<y then -1 else if x=y then 0 else 1
theorem natAbs_size (n:Int) (hs:(intB n).size≤10000000000):(numB n.natAbs).size≤10000000000:=by
 by_cases h:n<0
 ·have:=intB_size_neg n h;omega
 ·rw [intB_pos n (by omega)] at hs;rw [show n.natAbs=n.toNat by omega];exact hs
set_option maxRecDepth 100000 in
set_option maxHeartbeats 800000 in
theorem compare_q (x y:Int) (w:World) (hx:(intB x).size≤10000000000) (hy:(intB y).size≤10000000000) :
  Calls Tryz.prog 151 #[.string (intB x),.string (intB y)] w fun e w'=>e=.returned (.int .i64 (cmpI x y))∧∃ k,w'=w.drewN k:=by
 have H1:=Lib.hid (fun W=>sign_any x W)
 have H2:=Lib.hid (fun W=>sign_any y W)
 have H3:=Lib.hid (fun W=>split_q x W)
 have H4:=Lib.hid (fun W=>split_q y W)
 have H5:=Lib.hid (fun W=>decCompare_any x.natAbs y.natAbs W (natAbs_size x hx) (natAbs_size y hy))
 have H6:=Lib.hid (fun W=>decCompare_any y.natAbs x.natAbs W (natAbs_size y hy) (natAbs_size x hx))
 by_cases hs:x.sign=y.sign
 ·obtain ⟨s,hsx⟩:∃ s,x.sign=s:=⟨_,rfl⟩
  rw [hsx] at H1
  rw [← hs,hsx] at H2
  by_cases hn:x<0
  ·have hyn:y<0:=by
    rw [Int.sign_eq_neg_one_of_neg hn] at hs
    exact Int.sign_eq_neg_one_iff_neg.1 hs.symm
   have HC:Hid (cmpN y.natAbs x.natAbs=cmpI x y):=by
    unfold Hid cmpN cmpI
    rcases Int.lt_trichotomy x y with h | h | h
    ·rw [if_pos (by omega),if_pos h]
    ·rw [if_neg (by omega),if_pos (by omega),if_neg (by omega),if_pos h]
    ·rw [if_neg (by omega),if_neg (by omega),if_neg (by omega),if_neg (by omega)]
   rw [HC.out] at H6
   have hb:decide (x<0)=true:=decide_eq_true hn
   have hb2:decide (y<0)=true:=decide_eq_true hyn
   rw [hb] at H3
   rw [hb2] at H4
   have hss:(s != s)=false:=by simp
   clear hs hsx hn hyn hb hb2 HC H5
   go_enter Tryz.func151,Tryz.ntmps151
   go_wp2_with fail
   refine (H1.out _).mono ?_
   rintro e w' ⟨rfl,rfl⟩
   clear H1
   go_wp2_with fail
   refine (H2.out _).mono ?_
   rintro e w' ⟨rfl,rfl⟩
   clear H2
   go_wp2_with fail
   refine (H3.out _).mono ?_
   rintro e w1 ⟨rfl,k1,rfl⟩
   clear H3
   go_wp2_with fail
   refine (H4.out _).mono ?_
   rintro e w2 ⟨rfl,k2,rfl⟩
   clear H4
   go_wp2_with fail
   refine (H6.out _).mono ?_
   rintro e w' ⟨rfl,rfl⟩
   clear H6
   go_wp2_with fail
   go_ret
   exact ⟨rfl,_,rfl⟩
  ·have hyn:¬ y<0:=by
    intro h
    rw [Int.sign_eq_neg_one_of_neg h] at hs
    exact hn (Int.sign_eq_neg_one_iff_neg.1 hs)
   have HC:Hid (cmpN x.natAbs y.natAbs=cmpI x y):=by
    unfold Hid cmpN cmpI
    rcases Int.lt_trichotomy x y with h | h | h
    ·rw [if_pos (by omega),if_pos h]
    ·rw [if_neg (by omega),if_pos (by omega),if_neg (by omega),if_pos h]
    ·rw [if_neg (by omega),if_neg (by omega),if_neg (by omega),if_neg (by omega)]
   rw [HC.out] at H5
   have hb:decide (x<0)=false:=decide_eq_false hn
   have hb2:decide (y<0)=false:=decide_eq_false hyn
   rw [hb] at H3
   rw [hb2] at H4
   have hss:(s != s)=false:=by simp
   clear hs hsx hn hyn hb hb2 HC H6
   go_enter Tryz.func151,Tryz.ntmps151
   go_wp2_with fail
   refine (H1.out _).mono ?_
   rintro e w' ⟨rfl,rfl⟩
   clear H1
   go_wp2_with fail
   refine (H2.out _).mono ?_
   rintro e w' ⟨rfl,rfl⟩
   clear H2
   go_wp2_with fail
   refine (H3.out _).mono ?_
   rintro e w1 ⟨rfl,k1,rfl⟩
   clear H3
   go_wp2_with fail
   refine (H4.out _).mono ?_
   rintro e w2 ⟨rfl,k2,rfl⟩
   clear H4
   go_wp2_with fail
   refine (H5.out _).mono ?_
   rintro e w' ⟨rfl,rfl⟩
   clear H5
   go_wp2_with fail
   go_ret
   exact ⟨rfl,_,rfl⟩
 ·obtain ⟨hc1,hc2⟩:=sign_cmp x y hs
  obtain ⟨s,hsx⟩:∃ s,x.sign=s:=⟨_,rfl⟩
  obtain ⟨t,hty⟩:∃ t,y.sign=t:=⟨_,rfl⟩
  rw [hsx] at H1 hs hc1
  rw [hty] at H2 hs hc1
  have hst:(s != t)=true:=by simpa using hs
  clear H3 H4 H5 H6 hsx hty hs
  by_cases hlt:s<t
  ·have HC:Hid (cmpI x y=-1):=by unfold Hid cmpI;rw [if_pos (hc1.1 hlt)]
   rw [HC.out]
   clear HC hc1 hc2
   go_enter Tryz.func151,Tryz.ntmps151
   go_wp2_with fail
   refine (H1.out _).mono ?_
   rintro e w' ⟨rfl,rfl⟩
   clear H1
   go_wp2_with fail
   refine (H2.out _).mono ?_
   rintro e w' ⟨rfl,rfl⟩
   clear H2
   go_wp2_with fail
   go_ret
   exact ⟨rfl,0,rfl⟩
  ·have HC:Hid (cmpI x y=1):=by unfold Hid cmpI;rw [if_neg (fun h=>hlt (hc1.2 h)),if_neg hc2]
   rw [HC.out]
   clear HC hc1 hc2
   go_enter Tryz.func151,Tryz.ntmps151
   go_wp2_with fail
   refine (H1.out _).mono ?_
   rintro e w' ⟨rfl,rfl⟩
   clear H1
   go_wp2_with fail
   refine (H2.out _).mono ?_
   rintro e w' ⟨rfl,rfl⟩
   clear H2
   go_wp2_with fail
   go_ret
   exact ⟨rfl,0,rfl⟩
end Go.Proofs.YtjlkkofmojgipaaGreatDoor
