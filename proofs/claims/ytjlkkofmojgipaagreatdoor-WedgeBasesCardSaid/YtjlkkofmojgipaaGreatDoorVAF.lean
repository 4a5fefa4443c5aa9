import Derived.Test.YtjlkkofmojgipaaGreatDoorVAA
import Derived.Test.YtjlkkofmojgipaaGreatDoorVAE
import Derived.Test.YtjlkkofmojgipaaGreatDoorVAB
import Derived.Test.YtjlkkofmojgipaaGreatDoorVAD
set_option linter.unusedVariables false
set_option linter.unusedSimpArgs false
namespace Go.Proofs.YtjlkkofmojgipaaGreatDoor
open Go.RowKit
def bp (n:Int):Bool:=decide ((aE n.natAbs).size<=1000000000)
def iZ (n:Int):Bool:=decide ((aE n.natAbs).size<=400000000)
theorem mQ (n:Int):bp n=true↔(aE n.natAbs).size<=1000000000:=decide_eq_true_iff
theorem a4_ (n:Int):iZ n=true↔(aE n.natAbs).size<=400000000:=decide_eq_true_iff
def aW (k:Int):og->List Int->List Int
 | r,[]=>r
 | [],_::_=>[]
 | a::r,b::s=>(a-k*b)::aW k r s
theorem eU (k:Int):∀ r s:og,(aW k r s).length=r.length
 | [],[]=>rfl
 | a::r,[]=>rfl
 | [],_::_=>rfl
 | a::r,b::s=>by simp [aW,eU k r s]
theorem nY (k:Int):∀ (r s:og) (j:Nat) (a b:Int),r[j]?=some a->s[j]?=some b->(aW k r s)[j]?=some (a-k*b)
 | [],_,j,a,b,h,_=>by simp at h
 | _::_,[],j,a,b,_,h=>by simp at h
 | x::r,y::s,0,a,b,h,h'=>by simp at h h';subst h;subst h';rfl
 | x::r,y::s,j+1,a,b,h,h'=>by
  simp only [oP] at h h';exact nY k r s j a b h h'
def eV (k:Int) (r s:og):Option (og) :=
 if k=0 then some r
 else if s.length=r.length/\(iZ k && s.all iZ && r.all bp)=true then some (aW k r s) else none
def aD (m:oe) (i:Nat):List Int:=m.getD i []
def aC (m:oe) (i c:Nat):Int:=(aD m i).getD c 0
def an (c d:Nat) (m:oe):Nat->Option Nat
 | 0=>none
 | k+1=>match an c d m k with
  | none=>if aC m (d+k) c=0 then none else some (d+k)
  | some a=>if aC m (d+k) c≠0/\(aC m (d+k) c).natAbs<(aC m a c).natAbs then some (d+k) else some a
def a8 {α:Type} (l:List α) (i j:Nat):List α:=match l[i]?,l[j]? with
 | some a,some b=>(l.set i b).set j a
 | _,_=>l
def cB (c d:Nat) (m:oe):Nat->Option (oe×Bool)
 | 0=>some (m,false)
 | j+1=>match cB c d m j with
  | none=>none
  | some (m',rest) =>
   if aC m' d c=0 then none
   else match eV (aN (aC m' (d+1+j) c) (aC m' d c)) (aD m' (d+1+j)) (aD m' d) with
    | none=>none
    | some r=>some (m'.set (d+1+j) r,rest || decide (aq (aC m' (d+1+j) c) (aC m' d c)≠0))
def cR (c d:Nat) (m:oe):Nat->Option (oe)
 | 0=>some m
 | j+1=>match cR c d m j with
  | none=>none
  | some m' =>
   if aC m' d c=0 then none
   else match eV (aN (aC m' j c) (aC m' d c)) (aD m' j) (aD m' d) with
    | none=>none
    | some r=>some (m'.set j r)
def bH (n:Nat) (m:oe):Bool:=m.all fun r=>decide (r.length=n) && r.all bp
def dI (n c d:Nat):Nat->oe->Option (oe×Bool)
 | 0,_=>none
 | f+1,m =>
  if bH n m then
   match an c d m (m.length-d) with
   | none=>some (m,false)
   | some a=>match cB c d (a8 m d a) (m.length-(d+1)) with
    | none=>none
    | some (m2,true)=>dI n c d f m2
    | some (m2,false) =>
     if bH n m2 then
      match cR c d (if aC m2 d c<0 then m2.set d ((aD m2 d).map (- ·)) else m2) d with
      | none=>none
      | some m4=>some (m4,true)
     else none
  else none
def b9 (n F:Nat):Nat->Nat->Nat->oe->Option (oe×Nat)
 | 0,_,d,m=>some (m,d)
 | k+1,c,d,m =>
  if d<m.length then
   match dI n c d F m with
   | none=>none
   | some (m',p)=>b9 n F k (c+1) (if p then d+1 else d) m'
  else some (m,d)
def dx (n F cols:Nat) (m:oe):Option (oe) :=
 match b9 n F cols 0 0 m with
 | none=>none
 | some (m',d)=>some (m'.take d)
def fG (r:og):Int:=match r.findIdx? (· != 0) with | some i=>(i:Int) | none=>-1
def dR (k:Nat) (m:oe):oe:=(m.filter fun r=>decide ((k:Int)<=fG r)).map (·.drop k)
def bI (cols:Nat) (m:oe):oe:=(List.range cols).map fun c=>m.map (fun r=>r.getD c 0)++(List.replicate cols (0:Int)).set c 1
structure ag (w:World) (g o:Nat) (xs:og):Prop where
 lt:g<w.heap.size
 cell:∀ (j:Nat) x,xs[j]?=some x->w.cell? ⟨g,o+j,none⟩=some (.string (aB x))
 free:∀ j,w.frozen? ⟨g,j,none⟩=false
theorem Z9_ {w w':World} {g:Nat} (h:w'.heap[g]?=w.heap[g]?) (j:Nat):w'.cell? ⟨g,j,none⟩=w.cell? ⟨g,j,none⟩:=by
 simp [World.cell?,h]
theorem W1_ {w w':World} {g:Nat} (h:w'.heap[g]?=w.heap[g]?) (j:Nat):w'.frozen? ⟨g,j,none⟩=w.frozen? ⟨g,j,none⟩:=by
 simp [World.frozen?,h]
theorem ag.same {w w':World} {g o:Nat} {xs:og} (h:ag w g o xs) (hs:w.heap.size<=w'.heap.size) (hg:w'.heap[g]?=w.heap[g]?):ag w' g o xs :=
 ⟨oI h.lt hs,fun j x hx=>(Z9_ hg _).trans (h.cell j x hx),fun j=>(W1_ hg j).trans (h.free j)⟩
theorem ag.ext {w w':World} {g o:Nat} {xs:og} (h:ag w g o xs) (he:aA w w'):ag w' g o xs:=h.same he.size (he.block g h.lt)
theorem ag.grown {w w':World} {S:Nat->Prop} {g o:Nat} {xs:og} (h:ag w g o xs) (hg:aG S w w') (hS:¬ S g):ag w' g o xs:=h.same hg.size (hg.block g h.lt hS)
theorem Z1_ (w:World) (g i b:Nat) (v:Value) (h:b≠g):(w.setCell ⟨g,i,none⟩ v).heap[b]?=w.heap[b]?:=by
 by_cases hb:b<w.heap.size;·exact (fU w g i v).block b hb (fun e=>h (by cases e;rfl))
 ·have:(w.setCell ⟨g,i,none⟩ v).heap.size=w.heap.size:=by simp [World.setCell]
  rw [Array.getElem?_eq_none (by omega),Array.getElem?_eq_none (by omega)]
theorem nw (w:World) (a:Addr) (v:Value):(w.setCell a v).heap.size=w.heap.size:=by simp [World.setCell]
theorem Y2_ (w:World) (g i j:Nat) (v:Value):(w.setCell ⟨g,i,none⟩ v).frozen? ⟨g,j,none⟩=w.frozen? ⟨g,j,none⟩:=by
 exact World.frozen?_setCell ..
theorem ag.set {w:World} {g o:Nat} {xs:og} (h:ag w g o xs) (k:Nat) (hk:k<xs.length) (y:Int):ag (w.setCell ⟨g,o+k,none⟩ (.string (aB y))) g o (xs.set k y):=by
 refine ⟨by rw [nw];exact h.lt,fun j x hx=>?_,fun j=>by rw [Y2_];exact h.free j⟩;rw [oW] at hx;by_cases hj:k=j
 ·subst hj;rw [if_pos rfl,if_pos hk] at hx;cases hx;exact World.cell?_setCell_same w _ _ (h.cell k xs[k] (oB hk))
 ·rw [if_neg hj] at hx;rw [World.cell?_setCell_other w _ _ _ (by intro e;simp only [Addr.mk.injEq] at e;omega)];exact h.cell j x hx
theorem ag.other {w:World} {g o:Nat} {xs:og} (h:ag w g o xs) (b i:Nat) (v:Value) (hb:g≠b):ag (w.setCell ⟨b,i,none⟩ v) g o xs :=
 h.same (by rw [nw];exact oK _) (Z1_ w b i g v hb)
structure bM (w:World) (g0:Nat) (tags:List (Nat×Nat×Nat)) (m:oe):Prop where
 len:tags.length=m.length
 lt:g0<w.heap.size
 free:∀ j,w.frozen? ⟨g0,j,none⟩=false
 row:∀ (i:Nat) t r,tags[i]?=some t->m[i]?=some r->w.cell? ⟨g0,i,none⟩=some (.slice (some ⟨t.1,t.2.1,none⟩) r.length t.2.2)/\r.length<=t.2.2/\t.2.2<=maxLen/\ag w t.1 t.2.1 r
 nodup:(g0::tags.map (·.1)).Nodup
def dB (g0:Nat) (tags:List (Nat×Nat×Nat)) (b:Nat):Prop:=b∈g0::tags.map (·.1)
theorem bM.same {w w':World} {g0:Nat} {tags:List (Nat×Nat×Nat)} {m:oe} (h:bM w g0 tags m) (hs:w.heap.size<=w'.heap.size) (hb:∀ b,dB g0 tags b->w'.heap[b]?=w.heap[b]?):bM w' g0 tags m:=by
 have h0:=hb g0 (List.mem_cons_self ..);refine ⟨h.len,oI h.lt hs,fun j=>(W1_ h0 j).trans (h.free j),fun i t r ht hr=>?_,h.nodup⟩;obtain ⟨h1,h2,h3,h4⟩:=h.row i t r ht hr;exact ⟨(Z9_ h0 i).trans h1,h2,h3,h4.same hs (hb t.1 (List.mem_cons_of_mem _ (List.mem_map.2 ⟨t,oE ht,rfl⟩)))⟩
theorem bM.blt {w:World} {g0:Nat} {tags:List (Nat×Nat×Nat)} {m:oe} (h:bM w g0 tags m) {b:Nat} (hb:dB g0 tags b):b<w.heap.size:=by
 rcases List.mem_cons.1 hb with rfl | hb;·exact h.lt
 ·obtain ⟨t,ht,rfl⟩:=List.mem_map.1 hb;obtain ⟨i,hi⟩:=List.getElem?_of_mem ht;have hl:i<m.length:=by rw [<- h.len];exact (oC.1 hi).1
  exact (h.row i t m[i] hi (oB hl)).2.2.2.lt
theorem bM.ext {w w':World} {g0:Nat} {tags:List (Nat×Nat×Nat)} {m:oe} (h:bM w g0 tags m) (he:aA w w'):bM w' g0 tags m :=
 h.same he.size fun b hb=>he.block b (h.blt hb)
theorem bM.get {w:World} {g0:Nat} {tags:List (Nat×Nat×Nat)} {m:oe} (h:bM w g0 tags m) (i:Nat) (hi:i<m.length) :
  ∃ t,tags[i]?=some t/\w.cell? ⟨g0,i,none⟩=some (.slice (some ⟨t.1,t.2.1,none⟩) (aD m i).length t.2.2)/\(aD m i).length<=t.2.2/\t.2.2<=maxLen/\ag w t.1 t.2.1 (aD m i)/\t.1≠g0:=by
 have hl:i<tags.length:=by rw [h.len];exact hi
 have e:aD m i=m[i]:=by unfold aD;rw [oD,oB hi];rfl
 have:=h.row i tags[i] m[i] (oB hl) (oB hi);refine ⟨tags[i],oB hl,?_⟩;rw [e];refine ⟨this.1,this.2.1,this.2.2.1,this.2.2.2,?_⟩;have hn:=(List.nodup_cons.1 h.nodup).1;intro e2;exact hn (List.mem_map.2 ⟨tags[i],List.getElem_mem hl,e2⟩)
theorem bM.apart {w:World} {g0:Nat} {tags:List (Nat×Nat×Nat)} {m:oe} (h:bM w g0 tags m) {i j:Nat} {s t:Nat×Nat×Nat} (hs:tags[i]?=some s) (ht:tags[j]?=some t) (pY:i≠j):s.1≠t.1:=by
 have hn:=(List.nodup_cons.1 h.nodup).2;intro e;have h1:(tags.map (·.1))[i]?=some s.1:=by rw [oF,hs];rfl
 have h2:(tags.map (·.1))[j]?=some s.1:=by rw [oF,ht,e];rfl
 obtain ⟨l1,e1⟩:=oC.1 h1;obtain ⟨l2,e2⟩:=oC.1 h2;exact pY ((List.getElem_inj hn).1 (e1.trans e2.symm))
theorem bM.setRow {w w':World} {g0:Nat} {tags:List (Nat×Nat×Nat)} {m:oe} (h:bM w g0 tags m) (i:Nat) (hi:i<m.length) (t:Nat×Nat×Nat) (ht:tags[i]?=some t) (r:og) (hr:r.length=(aD m i).length) (hg:aG (·=t.1) w w') (hR:ag w' t.1 t.2.1 r):bM w' g0 tags (m.set i r):=by
 obtain ⟨t',rO,-,-,-,-,hne⟩:=h.get i hi;obtain rfl:t'=t:=oM (rO.symm.trans ht);have h0:=hg.block g0 h.lt (fun e=>hne e.symm);refine ⟨by rw [List.length_set];exact h.len,oI h.lt hg.size,fun j=>(W1_ h0 j).trans (h.free j),fun j s q hs hq=>?_,h.nodup⟩;rw [oW] at hq;by_cases hj:i=j
 ·subst hj;rw [if_pos rfl,if_pos hi] at hq;cases hq;obtain rfl:s=t':=oM (hs.symm.trans ht);have e:aD m i=m[i]:=by unfold aD;rw [oD,oB hi];rfl
  obtain ⟨h1,h2,h3,h4⟩:=h.row i s m[i] hs (oB hi);rw [<- e,<- hr] at h1 h2;exact ⟨(Z9_ h0 i).trans h1,h2,h3,hR⟩
 ·rw [if_neg hj] at hq;obtain ⟨h1,h2,h3,h4⟩:=h.row j s q hs hq;exact ⟨(Z9_ h0 j).trans h1,h2,h3,h4.grown hg (h.apart hs ht (fun e=>hj e.symm))⟩
theorem eE {m:oe} {i:Nat} (hi:i<m.length):m[i]?=some (aD m i):=by
 unfold aD;rw [oD,oB hi];rfl
theorem d_ {m:oe} {i:Nat} {r:og} (h:m[i]?=some r):aD m i=r:=by
 unfold aD;rw [oD,h];rfl
theorem fe {m:oe} {i j:Nat} {r:og} (hi:i<m.length):aD (m.set i r) j=if j=i then r else aD m j:=by
 unfold aD;rw [oD,oD,oW];by_cases h:i=j;·subst h;rw [if_pos rfl,if_pos rfl,if_pos hi];rfl
 ·rw [if_neg h,if_neg (fun e=>h e.symm)]
theorem jc {α:Type} (l:List α) (i j:Nat):(a8 l i j).length=l.length:=by
 unfold a8;split <;> simp
theorem n9 {α:Type} {l:List α} {i j:Nat} {a b:α} (hi:l[i]?=some a) (hj:l[j]?=some b):a8 l i j=(l.set i b).set j a:=by
 unfold a8;rw [hi,hj]
theorem S9_ {α:Type} (l:List α) (i j:Nat) (x:α) (h:x∈a8 l i j):x∈l:=by
 unfold a8 at h;cases hi:l[i]? with
 | none=>rw [hi] at h;exact h
 | some a =>
  cases hj:l[j]? with
  | none=>rw [hi,hj] at h;exact h
  | some b =>
   rw [hi,hj] at h;rcases List.mem_or_eq_of_mem_set h with h | h
   ·rcases List.mem_or_eq_of_mem_set h with h | h;·exact h
    ·rw [h];exact oE hj
   ·rw [h];exact oE hi
theorem n7_ {α β:Type} (f:α->β) (l:List α) (i j:Nat):(a8 l i j).map f=a8 (l.map f) i j:=by
 unfold a8;rw [oF,oF];cases l[i]? with
 | none=>rfl
 | some a=>cases l[j]? with
  | none=>rfl
  | some b=>simp [List.map_set]
theorem w4_ {n:Nat} {m:oe} (h:bH n m=true) (i j:Nat):bH n (a8 m i j)=true:=by
 unfold bH at h |-;rw [List.all_eq_true] at h |-;exact fun x hx=>h x (S9_ m i j x hx)
theorem eZ {n:Nat} {m:oe} (h:bH n m=true) (i:Nat) (hi:i<m.length):(aD m i).length=n/\(aD m i).all bp=true:=by
 unfold bH at h;have:=List.all_eq_true.1 h (aD m i) (oE (eE hi));rw [Bool.and_eq_true,decide_eq_true_iff] at this;exact this
theorem nZ {k:Int} {r s r':og} (h:eV k r s=some r'):r'.length=r.length:=by
 unfold eV at h
 split at h
 ·rw [<- oM h]
 ·split at h
  ·rw [<- oM h];exact eU k r s
  ·cases h
theorem D1_ (c d:Nat) (m:oe) (j:Nat):cB c d m (j+1)=match cB c d m j with
  | none=>none
  | some (m',rest) =>
   if aC m' d c=0 then none
   else match eV (aN (aC m' (d+1+j) c) (aC m' d c)) (aD m' (d+1+j)) (aD m' d) with
    | none=>none
    | some r=>some (m'.set (d+1+j) r,rest || decide (aq (aC m' (d+1+j) c) (aC m' d c)≠0)):=rfl
theorem nJ {c d j:Nat} {m:oe} {y:oe×Bool} (h:cB c d m (j+1)=some y) :
  ∃ m' rest r,cB c d m j=some (m',rest)/\aC m' d c≠0/\eV (aN (aC m' (d+1+j) c) (aC m' d c)) (aD m' (d+1+j)) (aD m' d)=some r/\y=(m'.set (d+1+j) r,rest || decide (aq (aC m' (d+1+j) c) (aC m' d c)≠0)):=by
 rw [D1_] at h;cases hd:cB c d m j with
 | none=>rw [hd] at h;cases h
 | some p =>
  obtain ⟨m',rest⟩:=p;rw [hd] at h;simp only at h;by_cases h0:aC m' d c=0;·rw [if_pos h0] at h;cases h
  ·rw [if_neg h0] at h;cases hl:eV (aN (aC m' (d+1+j) c) (aC m' d c)) (aD m' (d+1+j)) (aD m' d) with
   | none=>rw [hl] at h;cases h
   | some r =>
    rw [hl] at h;exact ⟨m',rest,r,rfl,h0,hl,(oM h).symm⟩
theorem D0_ {c d : Nat} {m : oe} {k : Nat} : ∀ {y}, cB c d m k = some y -> ∀ j, j <= k -> ∃ z, cB c d m j = some z := by
  induction k with
  | zero => intro y h j hj; obtain rfl : j = 0 := by omega
            exact ⟨y, h⟩
  | succ k ih =>
    intro y h j hj;by_cases he : j = k + 1;· subst he; exact ⟨y, h⟩
    · obtain ⟨m', rest, r, h1, -⟩ := nJ h
      exact ih h1 j (by omega)
theorem jt {c d:Nat} {m:oe} {k:Nat}:∀ {m' rest},cB c d m k=some (m',rest)->d+1+k<=m.length->m'.length=m.length/\(∀ i,i<=d\/d+1+k<=i->aD m' i=aD m i)/\(∀ i,(aD m' i).length=(aD m i).length):=by
 induction k with
 | zero =>
  intro m' rest h hk;have h:some (m,false)=some (m',rest):=h;simp only [Option.some.injEq,Prod.mk.injEq] at h;obtain ⟨rfl,-⟩:=h;exact ⟨rfl,fun _ _=>rfl,fun _=>rfl⟩
 | succ k ih =>
  intro m' rest h hk;obtain ⟨m1,r1,r,h1,h2,h3,h4⟩:=nJ h;obtain ⟨l1,l2,l3⟩:=ih h1 (by omega);simp only [Prod.mk.injEq] at h4;obtain ⟨rfl,-⟩:=h4;have hi:d+1+k<m1.length:=by omega
  refine ⟨by rw [List.length_set];exact l1,fun i pg=>?_,fun i=>?_⟩;·rw [fe hi,if_neg (by omega)];exact l2 i (by omega)
  ·rw [fe hi];by_cases he:i=d+1+k;·rw [if_pos he,he,nZ h3];exact l3 _
   ·rw [if_neg he];exact l3 i
theorem Z03 (c d:Nat) (m:oe) (j:Nat):cR c d m (j+1)=match cR c d m j with
  | none=>none
  | some m' =>
   if aC m' d c=0 then none
   else match eV (aN (aC m' j c) (aC m' d c)) (aD m' j) (aD m' d) with
    | none=>none
    | some r=>some (m'.set j r):=rfl
theorem mY {c d j:Nat} {m:oe} {y:oe} (h:cR c d m (j+1)=some y) :
  ∃ m' r,cR c d m j=some m'/\aC m' d c≠0/\eV (aN (aC m' j c) (aC m' d c)) (aD m' j) (aD m' d)=some r/\y=m'.set j r:=by
 rw [Z03] at h;cases hd:cR c d m j with
 | none=>rw [hd] at h;cases h
 | some m' =>
  rw [hd] at h;simp only at h;by_cases h0:aC m' d c=0;·rw [if_pos h0] at h;cases h
  ·rw [if_neg h0] at h;cases hl:eV (aN (aC m' j c) (aC m' d c)) (aD m' j) (aD m' d) with
   | none=>rw [hl] at h;cases h
   | some r =>
    rw [hl] at h;exact ⟨m',r,rfl,h0,hl,(oM h).symm⟩
theorem u1_ {c d : Nat} {m : oe} {k : Nat} : ∀ {y}, cR c d m k = some y -> ∀ j, j <= k -> ∃ z, cR c d m j = some z := by
  induction k with
  | zero => intro y h j hj; obtain rfl : j = 0 := by omega
            exact ⟨y, h⟩
  | succ k ih =>
    intro y h j hj;by_cases he : j = k + 1;· subst he; exact ⟨y, h⟩
    · obtain ⟨m', r, h1, -⟩ := mY h
      exact ih h1 j (by omega)
theorem n_ {c d:Nat} {m:oe} {k:Nat}:∀ {m'},cR c d m k=some m'->k<=d->d<m.length->m'.length=m.length/\(∀ i,k<=i->aD m' i=aD m i)/\(∀ i,(aD m' i).length=(aD m i).length):=by
 induction k with
 | zero =>
  intro m' h hk hd;have h:some m=some m':=h;obtain rfl:=oM h;exact ⟨rfl,fun _ _=>rfl,fun _=>rfl⟩
 | succ k ih =>
  intro m' h hk hd;obtain ⟨m1,r,h1,h2,h3,rfl⟩:=mY h;obtain ⟨l1,l2,l3⟩:=ih h1 (by omega) hd;have hi:k<m1.length:=by omega
  refine ⟨by rw [List.length_set];exact l1,fun i pg=>?_,fun i=>?_⟩;·rw [fe hi,if_neg (by omega)];exact l2 i (by omega)
  ·rw [fe hi];by_cases he:i=k;·rw [if_pos he,he,nZ h3];exact l3 _
   ·rw [if_neg he];exact l3 i
theorem Z1k {α:Type} [DecidableEq α] (l:List α) (i j:Nat):(a8 l i j).Perm l:=by
 cases hi:l[i]? with
 | none=>unfold a8;rw [hi]
 | some a =>
  cases hj:l[j]? with
  | none=>unfold a8;rw [hi,hj]
  | some b =>
   rw [n9 hi hj,List.perm_iff_count];intro x;have h1:=(oC.1 hi);have h2:=(oC.1 hj);obtain ⟨l1,e1⟩:=h1;obtain ⟨l2,e2⟩:=h2;have zp:j<(l.set i b).length:=(by rw [List.length_set];exact l2);rw [List.count_set zp,List.count_set l1];by_cases pY:i=j
   ·subst pY;rw [List.getElem_set_self];rw [e1] at e2;subst e2;rw [e1];have:(if a == x then 1 else 0)<=l.count x:=by
     split
     ·rename_i hx;rw [<- beq_iff_eq.1 hx];exact List.count_pos_iff.2 (oE hi)
     ·exact Nat.zero_le _
    omega
   ·rw [List.getElem_set_ne pY,e1,e2];have k1:(if a == x then 1 else 0)<=l.count x:=by
     split
     ·rename_i hx;rw [<- beq_iff_eq.1 hx];exact List.count_pos_iff.2 (oE hi)
     ·exact Nat.zero_le _
    have k2:(if b == x then 1 else 0)<=l.count x:=by
     split
     ·rename_i hx;rw [<- beq_iff_eq.1 hx];exact List.count_pos_iff.2 (oE hj)
     ·exact Nat.zero_le _
    omega
theorem bM.swap {w:World} {g0:Nat} {tags:List (Nat×Nat×Nat)} {m:oe} (h:bM w g0 tags m) (d a:Nat) (hd:d<m.length) (ha:a<m.length) (td ta:Nat×Nat×Nat) (we:tags[d]?=some td) (wg:tags[a]?=some ta) :
  bM ((w.setCell ⟨g0,d,none⟩ (.slice (some ⟨ta.1,ta.2.1,none⟩) (aD m a).length ta.2.2)).setCell ⟨g0,a,none⟩ (.slice (some ⟨td.1,td.2.1,none⟩) (aD m d).length td.2.2)) g0 (a8 tags d a) (a8 m d a):=by
 obtain ⟨td',EY,c1,c2,c3,c4,c5⟩:=h.get d hd;obtain rfl:td'=td:=oM (EY.symm.trans we);obtain ⟨ta',EZ,e1,e2,e3,e4,e5⟩:=h.get a ha;obtain rfl:ta'=ta:=oM (EZ.symm.trans wg);have hmd:=eE hd;have hma:=eE ha;rw [n9 we wg,n9 hmd hma];obtain ⟨w1,pE⟩:=oc ((w.setCell ⟨g0,d,none⟩ (.slice (some ⟨ta'.1,ta'.2.1,none⟩) (aD m a).length ta'.2.2)).setCell ⟨g0,a,none⟩ (.slice (some ⟨td'.1,td'.2.1,none⟩) (aD m d).length td'.2.2));have hsz:w1.heap.size=w.heap.size:=by rw [pE,nw,nw]
 have Eu:∀ b,b≠g0->w1.heap[b]?=w.heap[b]?:=fun b hb=>by rw [pE,Z1_ _ _ _ _ _ hb,Z1_ _ _ _ _ _ hb]
 have Aa:∀ j,w1.frozen? ⟨g0,j,none⟩=false:=fun j=>by rw [pE,Y2_,Y2_];exact h.free j
 have wT:w1.cell? ⟨g0,a,none⟩=some (.slice (some ⟨td'.1,td'.2.1,none⟩) (aD m d).length td'.2.2):=by
  rw [pE];by_cases vz:d=a
  ·subst vz;exact World.cell?_setCell_same _ _ _ (World.cell?_setCell_same w _ _ c1)
  ·exact World.cell?_setCell_same _ _ _ ((World.cell?_setCell_other w _ _ _ (by intro e;simp only [Addr.mk.injEq] at e;exact vz e.2.1)).trans e1)
 have tN:d≠a->w1.cell? ⟨g0,d,none⟩=some (.slice (some ⟨ta'.1,ta'.2.1,none⟩) (aD m a).length ta'.2.2):=fun vz=>by
  rw [pE,World.cell?_setCell_other _ _ _ _ (by intro e;simp only [Addr.mk.injEq] at e;exact vz e.2.1.symm)];exact World.cell?_setCell_same w _ _ c1
 have LG:∀ j,j≠d->j≠a->w1.cell? ⟨g0,j,none⟩=w.cell? ⟨g0,j,none⟩:=fun j Kp FG=>by
  rw [pE,World.cell?_setCell_other _ _ _ _ (by intro e;simp only [Addr.mk.injEq] at e;exact FG e.2.1.symm),World.cell?_setCell_other _ _ _ _ (by intro e;simp only [Addr.mk.injEq] at e;exact Kp e.2.1.symm)]
 rw [<- pE];clear pE;have hrow:∀ (t:Nat×Nat×Nat) r,t.1≠g0->ag w t.1 t.2.1 r->ag w1 t.1 t.2.1 r:=fun t r ht hr=>hr.same (by omega) (Eu t.1 ht);refine ⟨by simp only [List.length_set];exact h.len,by rw [hsz];exact h.lt,Aa,fun i t r ht hr=>?_,?_⟩
 ·have hlt:tags.length=m.length:=h.len;by_cases D5:i=a
  ·subst D5;rw [List.getElem?_set_self (by rw [List.length_set];omega)] at ht;rw [List.getElem?_set_self (by rw [List.length_set];omega)] at hr;obtain rfl:=oM ht;obtain rfl:=oM hr;exact ⟨wT,c2,c3,hrow _ _ c5 c4⟩
  ·rw [List.getElem?_set_ne (fun e=>D5 e.symm)] at ht hr;by_cases hid:i=d
   ·subst hid;rw [List.getElem?_set_self (by omega)] at ht;rw [List.getElem?_set_self (by omega)] at hr;obtain rfl:=oM ht;obtain rfl:=oM hr;exact ⟨tN D5,e2,e3,hrow _ _ e5 e4⟩
   ·rw [List.getElem?_set_ne (fun e=>hid e.symm)] at ht hr;obtain ⟨k1,k2,k3,k4⟩:=h.row i t r ht hr;have hne:t.1≠g0:=by
     intro e;exact (List.nodup_cons.1 h.nodup).1 (List.mem_map.2 ⟨t,oE ht,e⟩)
    exact ⟨(LG i hid D5).trans k1,k2,k3,hrow _ _ hne k4⟩
 ·have hn:=List.nodup_cons.1 h.nodup;rw [List.nodup_cons];have hsw:((tags.set d ta').set a td').map (·.1)=a8 (tags.map (·.1)) d a:=by
   rw [<- n9 we wg,n7_]
  rw [hsw];refine ⟨fun hm=>hn.1 (S9_ _ _ _ _ hm),?_⟩;have hp:(a8 (tags.map (·.1)) d a).Perm (tags.map (·.1)):=Z1k _ _ _;exact hp.nodup_iff.2 hn.2
theorem iP (x y:Int) (hy:y≠0):(aN x y).natAbs*y.natAbs<=x.natAbs+y.natAbs/\(aq x y).natAbs<y.natAbs:=by
 have e:=lx x y;have h2:(aq x y).natAbs<y.natAbs:=by
  rcases Int.lt_or_gt_of_ne hy with h | h;·have:=lz x y h;omega
  ·have:=jv x y h;omega
 refine ⟨?_,h2⟩;have h3:y*aN x y=x-aq x y:=by omega
 have h4:(y*aN x y).natAbs=y.natAbs*(aN x y).natAbs:=Int.natAbs_mul _ _;rw [Nat.mul_comm,<- h4,h3];omega
def Z3D (x y:Int):Prop:=(0<=x/\0<y)\/(x<=0/\y<0)
theorem ly (x y:Int) (h:Z3D x y):(aN x y).natAbs*y.natAbs<=x.natAbs/\(aq x y).natAbs<=x.natAbs/\Z3D (aq x y) y/\(y.natAbs<=x.natAbs->2*(aq x y).natAbs<=x.natAbs):=by
 have e:=lx x y;have h4:(y*aN x y).natAbs=y.natAbs*(aN x y).natAbs:=Int.natAbs_mul _ _;have h3:y*aN x y=x-aq x y:=by omega
 rcases h with ⟨hx,hy⟩ | ⟨hx,hy⟩
 ·have hr:=jv x y hy;have hq:0<=aN x y:=by
   rcases Int.lt_or_le (aN x y) 0 with hn | hn
   ·have:y*aN x y<=y*(-1):=Int.mul_le_mul_of_nonneg_left (by omega) (by omega);omega
   ·exact hn
  have hp:0<=y*aN x y:=Int.mul_nonneg (by omega) hq;refine ⟨by rw [Nat.mul_comm,<- h4,h3];omega,by omega,.inl ⟨hr.1,hy⟩,fun hle=>?_⟩;have vP:1<=aN x y:=by
   rcases Int.lt_or_le (aN x y) 1 with hn | hn
   ·have h0:aN x y=0:=(by omega);rw [h0,Int.mul_zero] at h3;omega
   ·exact hn
  have:y*1<=y*aN x y:=Int.mul_le_mul_of_nonneg_left vP (by omega);omega
 ·have hr:=lz x y hy;have hq:0<=aN x y:=by
   rcases Int.lt_or_le (aN x y) 0 with hn | hn
   ·have:(-y)*aN x y<=(-y)*(-1):=Int.mul_le_mul_of_nonneg_left (by omega) (by omega);have e2:(-y)*aN x y=-(y*aN x y):=Int.neg_mul _ _;omega
   ·exact hn
  have hp:0<=(-y)*aN x y:=Int.mul_nonneg (by omega) hq;have e2:(-y)*aN x y=-(y*aN x y):=Int.neg_mul _ _;refine ⟨by rw [Nat.mul_comm,<- h4,h3];omega,by omega,.inr ⟨hr.2,hy⟩,fun hle=>?_⟩;have vP:1<=aN x y:=by
   rcases Int.lt_or_le (aN x y) 1 with hn | hn
   ·have h0:aN x y=0:=(by omega);rw [h0,Int.mul_zero] at h3;omega
   ·exact hn
  have:(-y)*1<=(-y)*aN x y:=Int.mul_le_mul_of_nonneg_left vP (by omega);omega
def bJ (B:Nat) (r:og):Prop:=∀ x∈r,x.natAbs<=B
theorem bJ.mono {B B':Nat} {r:og} (h:bJ B r) (hb:B<=B'):bJ B' r:=fun x hx=>oJ (h x hx) hb
theorem bJ.getD {B:Nat} {r:og} (h:bJ B r) (c:Nat):(r.getD c 0).natAbs<=B:=by
 rw [oD];cases hc:r[c]? with
 | none=>simp
 | some x=>exact h x (oE hc)
theorem bJ.neg {B:Nat} {r:og} (h:bJ B r):bJ B (r.map (- ·)):=by
 intro x hx;obtain ⟨y,hy,rfl⟩:=List.mem_map.1 hx;rw [Int.natAbs_neg];exact h y hy
theorem x3_ {B C:Nat} (k:Int):∀ (r s:og),bJ B r->bJ C s->bJ (B+k.natAbs*C) (aW k r s)
 | r,[],h,_=>by
  have:aW k r []=r:=by cases r <;> rfl
  rw [this];exact h.mono (Nat.le_add_right _ _)
 | [],_::_,_,_=>fun x hx=>by simp [aW] at hx
 | a::r,b::s,h,h'=>by
  intro x hx;unfold aW at hx;rcases List.mem_cons.1 hx with rfl | hx
  ·have h1:=h a (by simp);have h2:=h' b (by simp);have h3:(k*b).natAbs<=k.natAbs*C:=(by rw [Int.natAbs_mul];exact Nat.mul_le_mul_left _ h2);omega
  ·exact x3_ k r s (fun y hy=>h y (by simp [hy])) (fun y hy=>h' y (by simp [hy])) x hx
theorem iy:∀ (r s:og),aW 0 r s=r
 | r,[]=>by cases r <;> rfl
 | [],_::_=>rfl
 | a::r,b::s=>by unfold aW;rw [iy r s];simp
theorem et (k:Int) {r s:og} (hl:s.length=r.length) (c:Nat):(aW k r s).getD c 0=r.getD c 0-k*s.getD c 0:=by
 simp only [oD];by_cases hc:c<r.length;·rw [nY k r s c r[c] (s[c]'(by omega)) (oB hc) (oB _),oB hc,oB (by omega)];rfl
 ·rw [oL (by rw [eU];omega),oL (by omega),oL (by omega)];simp
theorem mR {x:Int} {K:Nat} (hK:K<=1000000000) (h1:1<=K) (h:x.natAbs<10^K):bp x=true:=(mQ x).2 (oJ (jB _ K h h1) hK)
theorem Z3h {x:Int} {K:Nat} (hK:K<=400000000) (h1:1<=K) (h:x.natAbs<10^K):iZ x=true:=(a4_ x).2 (oJ (jB _ K h h1) hK)
theorem d9_ {K B C:Nat} {k:Int} {r s:og} (hK:K<=400000000) (h1:1<=K) (hl:s.length=r.length) (hr:bJ B r) (hs:bJ C s) (hB:B<10^K) (hC:C<10^K) (hk:k.natAbs<10^K):eV k r s=some (aW k r s):=by
 unfold eV;by_cases h0:k=0;·rw [if_pos h0,h0,iy]
 ·have hc:(iZ k && s.all iZ && r.all bp)=true:=by
   rw [Bool.and_eq_true,Bool.and_eq_true,List.all_eq_true,List.all_eq_true];exact ⟨⟨Z3h hK h1 hk,fun x hx=>Z3h hK h1 (Nat.lt_of_le_of_lt (hs x hx) hC)⟩,fun x hx=>mR (by omega) h1 (Nat.lt_of_le_of_lt (hr x hx) hB)⟩
  rw [if_neg h0,if_pos ⟨hl,hc⟩]
def ee (d B:Nat) (m:oe):Prop:=∀ i,d<=i->i<m.length->bJ B (aD m i)
def eF (d U:Nat) (m:oe):Prop:=∀ i,i<d->i<m.length->bJ U (aD m i)
def bB (n:Nat) (m:oe):Prop:=∀ i,i<m.length->(aD m i).length=n
theorem mH {n K B U d:Nat} {m:oe} (hK:K<=400000000) (h1:1<=K) (hw:bB n m) (hl:ee d B m) (hu:eF d U m) (hB:B<10^K) (hU:U<10^K):bH n m=true:=by
 unfold bH;rw [List.all_eq_true];intro r hr;obtain ⟨i,hi⟩:=List.getElem?_of_mem hr;have him:=(oC.1 hi).1;have hre:=d_ hi;rw [Bool.and_eq_true,decide_eq_true_iff,List.all_eq_true];refine ⟨by rw [<- hre];exact hw i him,fun x hx=>?_⟩;by_cases hd:d<=i;·exact mR (by omega) h1 (Nat.lt_of_le_of_lt (hl i hd him x (by rw [hre];exact hx)) hB)
 ·exact mR (by omega) h1 (Nat.lt_of_le_of_lt (hu i (by omega) him x (by rw [hre];exact hx)) hU)
theorem jm {c d:Nat} {m:oe}:∀ {k:Nat},an c d m k=none->∀ i,d<=i->i<d+k->aC m i c=0
 | 0,_,i,h1,h2=>by omega
 | k+1,h,i,h1,h2=>by
  unfold an at h;cases hb:an c d m k with
  | none =>
   rw [hb] at h;simp only at h;by_cases h0:aC m (d+k) c=0
   ·by_cases hi:i=d+k;·rw [hi];exact h0
    ·exact jm hb i h1 (by omega)
   ·rw [if_neg h0] at h;cases h
  | some a =>
   rw [hb] at h;simp only at h
   split at h <;> cases h
theorem gh {c d:Nat} {m:oe}:∀ {k a:Nat},an c d m k=some a->d<=a/\a<d+k/\aC m a c≠0/\∀ i,d<=i->i<d+k->aC m i c≠0->(aC m a c).natAbs<=(aC m i c).natAbs
 | 0,a,h=>by simp [an] at h
 | k+1,a,h=>by
  unfold an at h;cases hb:an c d m k with
  | none =>
   rw [hb] at h;simp only at h;by_cases h0:aC m (d+k) c=0;·rw [if_pos h0] at h;cases h
   ·rw [if_neg h0] at h;obtain rfl:=oM h;refine ⟨by omega,by omega,h0,fun i h1 h2 h3=>?_⟩;by_cases hi:i=d+k;·rw [hi];exact oK _
    ·exact absurd (jm hb i h1 (by omega)) h3
  | some b =>
   obtain ⟨b1,b2,b3,b4⟩:=gh hb;rw [hb] at h;simp only at h;by_cases hc:aC m (d+k) c≠0/\(aC m (d+k) c).natAbs<(aC m b c).natAbs
   ·rw [if_pos hc] at h;obtain rfl:=oM h;refine ⟨by omega,by omega,hc.1,fun i h1 h2 h3=>?_⟩;by_cases hi:i=d+k;·rw [hi];exact oK _
    ·have:=b4 i h1 (by omega) h3;omega
   ·rw [if_neg hc] at h;obtain rfl:=oM h;refine ⟨b1,by omega,b3,fun i h1 h2 h3=>?_⟩;by_cases hi:i=d+k
    ·subst hi;have:¬ (aC m (d+k) c).natAbs<(aC m b c).natAbs:=fun hlt=>hc ⟨h3,hlt⟩;omega
    ·exact b4 i h1 (by omega) h3
theorem Z1R {c d n K B:Nat} {m:oe} (hK:K<=400000000) (h1:1<=K) (hd:d<m.length) (hw:bB n m) (hp:aC m d c≠0) (hB:ee d B m) (qb:B+2<10^K) :
  ∀ k,d+1+k<=m.length->∃ m' rest,cB c d m k=some (m',rest)/\m'.length=m.length/\(∀ i,i<=d\/d+1+k<=i->aD m' i=aD m i) /\
   (∀ i,d<i->i<d+1+k->aD m' i=aW (aN (aC m i c) (aC m d c)) (aD m i) (aD m d))/\(rest=false->∀ i,d<i->i<d+1+k->aq (aC m i c) (aC m d c)=0)/\(rest=true->∃ i,d<i/\i<d+1+k/\aq (aC m i c) (aC m d c)≠0)
 | 0,_=>⟨m,false,rfl,rfl,fun _ _=>rfl,fun i h2 h3=>by omega,fun _ i h2 h3=>by omega,fun h=>by cases h⟩
 | k+1,hk=>by
  obtain ⟨m1,r1,e1,l1,a1,b1,f1,t1⟩:=Z1R hK h1 hd hw hp hB qb k (by omega);have CE:aD m1 d=aD m d:=a1 d (.inl (oK _));have qJ:aD m1 (d+1+k)=aD m (d+1+k):=a1 _ (.inr (oK _));have vQ:aC m1 d c=aC m d c:=by unfold aC;rw [CE]
  have FJ:aC m1 (d+1+k) c=aC m (d+1+k) c:=by unfold aC;rw [qJ]
  have hil:d+1+k<m.length:=by omega
  have hq:(aN (aC m (d+1+k) c) (aC m d c)).natAbs<10^K:=by
   have h2:=(iP (aC m (d+1+k) c) (aC m d c) hp).1;have h3:(aC m (d+1+k) c).natAbs<=B:=(hB _ (by omega) hil).getD c;have h4:1<=(aC m d c).natAbs:=(by omega);have h5:(aN (aC m (d+1+k) c) (aC m d c)).natAbs<=(aC m (d+1+k) c).natAbs+1:=nP _ _;omega
  have hlo:=d9_ (k:=aN (aC m (d+1+k) c) (aC m d c)) hK h1 (show (aD m d).length=(aD m (d+1+k)).length by rw [hw d hd,hw _ hil]) (hB _ (by omega) hil) (hB d (oK _) hd) (by omega) (by omega) hq;refine ⟨m1.set (d+1+k) (aW (aN (aC m (d+1+k) c) (aC m d c)) (aD m (d+1+k)) (aD m d)),r1 || decide (aq (aC m (d+1+k) c) (aC m d c)≠0),?_,by rw [List.length_set];exact l1,fun i hi=>?_,fun i h2 h3=>?_,fun hr i h2 h3=>?_,fun hr=>?_⟩
  ·rw [D1_,e1];simp only;rw [vQ,FJ,CE,qJ,if_neg hp,hlo]
  ·rw [fe (by omega),if_neg (by omega)];exact a1 i (by omega)
  ·rw [fe (by omega)];by_cases hi:i=d+1+k;·rw [if_pos hi,hi]
   ·rw [if_neg hi];exact b1 i h2 (by omega)
  ·rw [Bool.or_eq_false_iff] at hr;by_cases hi:i=d+1+k;·rw [hi];simpa using hr.2
   ·exact f1 hr.1 i h2 (by omega)
  ·rw [Bool.or_eq_true] at hr;rcases hr with hr | hr;·obtain ⟨i,h2,h3,h4⟩:=t1 hr;exact ⟨i,h2,by omega,h4⟩
   ·exact ⟨d+1+k,by omega,by omega,by simpa using hr⟩
theorem mP {m:oe} {d a:Nat} (hd:d<m.length) (ha:a<m.length) (i:Nat):aD (a8 m d a) i=if i=a then aD m d else if i=d then aD m a else aD m i:=by
 rw [n9 (eE hd) (eE ha),fe (by rw [List.length_set];exact ha)];by_cases h1:i=a;·rw [if_pos h1,if_pos h1]
 ·rw [if_neg h1,if_neg h1,fe hd]
def jI (d c M:Nat) (m:oe):Prop:=∀ i,d<=i->i<m.length->(aC m i c).natAbs<=M
def lP (d c:Nat) (pos:Bool) (m:oe):Prop:=∀ i,d<=i->i<m.length->if pos then 0<=aC m i c else aC m i c<=0
theorem K2_ {n c d K M B U a Q:Nat} {m:oe} (hK:K<=400000000) (h1:1<=K) (hd:d<m.length) (hw:bB n m) (hB:ee d B m) (hU:eF d U m) (hM:jI d c M m) (ha:an c d m (m.length-d)=some a) (qb:B+2<10^K)
  (hQ:∀ i,d<=i->i<m.length->(aN (aC m i c) (aC m a c)).natAbs<=Q) :
  ∃ m2 rest,cB c d (a8 m d a) (m.length-(d+1))=some (m2,rest)/\m2.length=m.length/\bB n m2/\ee d (B+Q*B) m2/\eF d U m2/\aC m2 d c=aC m a c/\bJ B (aD m2 d) /\
   (∀ i,d<i->i<m.length->∃ k,d<=k/\k<m.length/\aC m2 i c=aq (aC m k c) (aC m a c))/\(rest=false->∀ i,d<i->i<m.length->aC m2 i c=0)/\(rest=true->∃ i,d<i/\i<m.length/\aC m2 i c≠0):=by
 obtain ⟨b1,b2,b3,b4⟩:=gh ha;have pT:a<m.length:=by omega
 have hsl:(a8 m d a).length=m.length:=jc m d a;have hrow:=mP hd pT;have zZ:∀ i,d<=i->i<m.length->∃ k,d<=k/\k<m.length/\aD (a8 m d a) i=aD m k:=by
  intro i h2 h3;rw [hrow];by_cases e1:i=a;·rw [if_pos e1];exact ⟨d,oK _,hd,rfl⟩
  ·rw [if_neg e1];by_cases e2:i=d;·rw [if_pos e2];exact ⟨a,b1,pT,rfl⟩
   ·rw [if_neg e2];exact ⟨i,h2,h3,rfl⟩
 have ya:bB n (a8 m d a):=by
  intro i hi;rw [hsl] at hi;rw [hrow];by_cases e1:i=a;·rw [if_pos e1];exact hw d hd
  ·rw [if_neg e1];by_cases e2:i=d;·rw [if_pos e2];exact hw a pT
   ·rw [if_neg e2];exact hw i hi
 have Lm:ee d B (a8 m d a):=by
  intro i h2 h3;rw [hsl] at h3;obtain ⟨k,k1,k2,k3⟩:=zZ i h2 h3;rw [k3];exact hB k k1 k2
 have vT:aD (a8 m d a) d=aD m a:=by
  rw [hrow];by_cases e1:d=a;·rw [if_pos e1,e1]
  ·rw [if_neg e1,if_pos rfl]
 have Dy:aC (a8 m d a) d c=aC m a c:=by unfold aC;rw [vT]
 obtain ⟨m2,rest,e1,e2,e3,e4,e5,e6⟩:=Z1R (K:=K) (B:=B) hK h1 (by rw [hsl];exact hd) ya (by rw [Dy];exact b3) Lm qb (m.length-(d+1)) (by rw [hsl];omega);rw [hsl] at e2;have hdm:d+1+(m.length-(d+1))=m.length:=by omega
 rw [hdm] at e3 e4 e5 e6;rw [Dy] at e4 e5 e6;have pX:aD m2 d=aD m a:=(e3 d (.inl (oK _))).trans vT;have ym:∀ i,d<i->i<m.length->∃ k,d<=k/\k<m.length/\aD (a8 m d a) i=aD m k/\aC (a8 m d a) i c=aC m k c/\aC m2 i c=aq (aC m k c) (aC m a c):=by
  intro i h2 h3;obtain ⟨k,k1,k2,k3⟩:=zZ i (by omega) h3;have hg:aC (a8 m d a) i c=aC m k c:=by unfold aC;rw [k3]
  refine ⟨k,k1,k2,k3,hg,?_⟩;show (aD m2 i).getD c 0=_;rw [e4 i h2 h3,et _ (by rw [ya d (by rw [hsl];exact hd),ya i (by rw [hsl];exact h3)]),vT];have h5:=lx (aC m k c) (aC m a c);show aC (a8 m d a) i c-aN (aC (a8 m d a) i c) (aC m a c)*aC m a c=_;rw [hg,Int.mul_comm];omega
 refine ⟨m2,rest,e1,e2,fun i hi=>?_,fun i h2 h3=>?_,fun i h2 h3=>?_,?_,?_,fun i h2 h3=>?_,fun hr i h2 h3=>?_,fun hr=>?_⟩
 ·rw [e2] at hi;by_cases hid:d<i;·rw [e4 i hid hi,eU];exact ya i (by rw [hsl];exact hi)
  ·rw [e3 i (.inl (by omega))];exact ya i (by rw [hsl];exact hi)
 ·rw [e2] at h3;by_cases hid:d<i
  ·obtain ⟨k,k1,k2,k3,k4,-⟩:=ym i hid h3;rw [e4 i hid h3,vT,k3,k4];exact (x3_ _ _ _ (hB k k1 k2) (hB a b1 pT)).mono (Nat.add_le_add_left (Nat.mul_le_mul_right _ (hQ k k1 k2)) _)
  ·obtain rfl:i=d:=(by omega);rw [pX];exact (hB a b1 pT).mono (Nat.le_add_right _ _)
 ·rw [e2] at h3;have hne:i≠a:=by omega
  rw [e3 i (.inl (by omega)),hrow,if_neg hne,if_neg (by omega)];exact hU i h2 h3
 ·show (aD m2 d).getD c 0=_;rw [pX];rfl
 ·rw [pX];exact hB a b1 pT
 ·obtain ⟨k,k1,k2,-,-,k5⟩:=ym i h2 h3;exact ⟨k,k1,k2,k5⟩
 ·obtain ⟨k,k1,k2,-,k4,k5⟩:=ym i h2 h3;rw [k5,<- k4];exact e5 hr i h2 h3
 ·obtain ⟨i,h2,h3,h4⟩:=e6 hr;obtain ⟨k,k1,k2,-,k4,k5⟩:=ym i h2 h3;exact ⟨i,h2,h3,by rw [k5,<- k4];exact h4⟩
theorem Z6z {c d n K C U:Nat} {m:oe} (hK:K<=400000000) (h1:1<=K) (hd:d<m.length) (hw:bB n m) (hp:aC m d c≠0) (hC:bJ C (aD m d)) (hU:eF d U m) (zn:C<10^K) (sP:U+2<10^K) :
  ∀ k,k<=d->∃ m',cR c d m k=some m'/\m'.length=m.length/\(∀ i,k<=i->aD m' i=aD m i)/\(∀ i,i<k->aD m' i=aW (aN (aC m i c) (aC m d c)) (aD m i) (aD m d))
 | 0,_=>⟨m,rfl,rfl,fun _ _=>rfl,fun i h=>by omega⟩
 | k+1,hk=>by
  obtain ⟨m1,e1,l1,a1,b1⟩:=Z6z hK h1 hd hw hp hC hU zn sP k (by omega);have CE:aD m1 d=aD m d:=a1 d (by omega);have qJ:aD m1 k=aD m k:=a1 k (oK _);have vQ:aC m1 d c=aC m d c:=by unfold aC;rw [CE]
  have FJ:aC m1 k c=aC m k c:=by unfold aC;rw [qJ]
  have hq:(aN (aC m k c) (aC m d c)).natAbs<10^K:=by
   have h3:(aC m k c).natAbs<=U:=(hU k (by omega) (by omega)).getD c;have h5:=nP (aC m k c) (aC m d c);omega
  have hlo:=d9_ (k:=aN (aC m k c) (aC m d c)) hK h1 (show (aD m d).length=(aD m k).length by rw [hw d hd,hw k (by omega)]) (hU k (by omega) (by omega)) hC (by omega) zn hq;refine ⟨m1.set k (aW (aN (aC m k c) (aC m d c)) (aD m k) (aD m d)),?_,by rw [List.length_set];exact l1,fun i hi=>?_,fun i hi=>?_⟩
  ·rw [Z03,e1];simp only;rw [vQ,FJ,CE,qJ,if_neg hp,hlo]
  ·rw [fe (by omega),if_neg (by omega)];exact a1 i (by omega)
  ·rw [fe (by omega)];by_cases he:i=k;·rw [if_pos he,he]
   ·rw [if_neg he];exact b1 i (by omega)
structure mg (n d c C U:Nat) (m m':oe):Prop where
 len:m'.length=m.length
 wid:bB n m'
 low:ee d C m'
 upp:eF d (U+(U+1)*C) m'
 pos:0<aC m' d c
 zero:∀ i,d<i->i<m.length->aC m' i c=0
 red:∀ i,i<d->0<=aC m' i c/\aC m' i c<aC m' d c
theorem Z24 {n c d K C U:Nat} {m2:oe} (hK:K<=400000000) (h1:1<=K) (hd:d<m2.length) (hw:bB n m2) (hC:ee d C m2) (hU:eF d U m2) (hp:aC m2 d c≠0) (hz:∀ i,d<i->i<m2.length->aC m2 i c=0) (zn:C<10^K) (sP:U+2<10^K) :
  ∃ m4,cR c d (if aC m2 d c<0 then m2.set d ((aD m2 d).map (- ·)) else m2) d=some m4/\mg n d c C U m2 m4:=by
 obtain ⟨m3,vR⟩:=oc ((if aC m2 d c<0 then m2.set d ((aD m2 d).map (- ·)) else m2));rw [<- vR];have hneg:∀ (r:og),(r.map (- ·)).getD c 0=-(r.getD c 0):=by
  intro r;simp only [oD,oF];cases r[c]? <;> simp
 have l3:m3.length=m2.length:=by rw [vR];split <;> simp
 have r3:∀ i,i≠d->aD m3 i=aD m2 i:=by
  intro i hi;rw [vR];split;·rw [fe hd,if_neg hi]
  ·rfl
 have d3:aD m3 d=aD m2 d/\0<aC m2 d c\/aD m3 d=(aD m2 d).map (- ·)/\aC m2 d c<0:=by
  rw [vR];by_cases hn:aC m2 d c<0;·rw [if_pos hn,fe hd,if_pos rfl];exact .inr ⟨rfl,hn⟩
  ·rw [if_neg hn];exact .inl ⟨rfl,by omega⟩
 have Es:0<aC m3 d c:=by
  rcases d3 with ⟨h,h'⟩ | ⟨h,h'⟩
  ·show 0<(aD m3 d).getD c 0;rw [h];exact h'
  ·show 0<(aD m3 d).getD c 0;rw [h,hneg];have:(aD m2 d).getD c 0<0:=h';omega
 have hw3:bB n m3:=by
  intro i hi;by_cases he:i=d
  ·rw [he];rcases d3 with ⟨h,-⟩ | ⟨h,-⟩
   ·rw [h];exact hw d hd
   ·rw [h,List.length_map];exact hw d hd
  ·rw [r3 i he];exact hw i (by omega)
 have GQ:bJ C (aD m3 d):=by
  rcases d3 with ⟨h,-⟩ | ⟨h,-⟩
  ·rw [h];exact hC d (oK _) hd
  ·rw [h];exact (hC d (oK _) hd).neg
 have Ba:eF d U m3:=fun i h2 h3=>by rw [r3 i (by omega)];exact hU i h2 (by omega)
 obtain ⟨m4,e1,e2,e3,e4⟩:=Z6z hK h1 (by omega) hw3 (Int.ne_of_gt Es) GQ Ba zn sP d (oK _);have sO:aC m4 d c=aC m3 d c:=by unfold aC;rw [e3 d (oK _)]
 refine ⟨m4,e1,by omega,fun i hi=>?_,fun i h2 h3=>?_,fun i h2 h3=>?_,by rw [sO];exact Es,fun i h2 h3=>?_,fun i h2=>?_⟩
 ·by_cases he:i<d;·rw [e4 i he,eU];exact hw3 i (by omega)
  ·rw [e3 i (by omega)];exact hw3 i (by omega)
 ·rw [e3 i h2];by_cases he:i=d;·rw [he];exact GQ
  ·rw [r3 i he];exact hC i h2 (by omega)
 ·rw [e4 i h2];have hx:(aC m3 i c).natAbs<=U:=(Ba i h2 (by omega)).getD c;exact (x3_ _ _ _ (Ba i h2 (by omega)) GQ).mono (Nat.add_le_add_left (Nat.mul_le_mul_right _ (oJ (nP _ _) (by omega))) _)
 ·show (aD m4 i).getD c 0=0;rw [e3 i (by omega),r3 i (by omega)];exact hz i h2 h3
 ·have hg:aC m4 i c=aq (aC m3 i c) (aC m3 d c):=by
   show (aD m4 i).getD c 0=_;rw [e4 i h2,et _ (by rw [hw3 d (by omega),hw3 i (by omega)])];have h5:=lx (aC m3 i c) (aC m3 d c);show aC m3 i c-aN (aC m3 i c) (aC m3 d c)*aC m3 d c=_;rw [Int.mul_comm];omega
  rw [hg,sO];exact jv _ _ Es
theorem A4_ {n c d a f:Nat} {m m2:oe} (hok:bH n m=true) (ha:an c d m (m.length-d)=some a) (pP:cB c d (a8 m d a) (m.length-(d+1))=some (m2,true)):dI n c d (f+1) m=dI n c d f m2:=by
 rw [dI,if_pos hok,ha];simp only;rw [pP]
theorem G3_ {n c d a f K C U:Nat} {m m2:oe} (hK:K<=400000000) (h1:1<=K) (hd:d<m.length) (hok:bH n m=true) (ha:an c d m (m.length-d)=some a) (pP:cB c d (a8 m d a) (m.length-(d+1))=some (m2,false))
  (l2:m2.length=m.length) (hw:bB n m2) (hC:ee d C m2) (hU:eF d U m2) (hp:aC m2 d c≠0) (hz:∀ i,d<i->i<m.length->aC m2 i c=0) (zn:C<10^K) (sP:U+2<10^K) :
  ∃ m',dI n c d (f+1) m=some (m',true)/\mg n d c C U m m':=by
 obtain ⟨m4,e4,s4⟩:=Z24 hK h1 (by rw [l2];exact hd) hw hC hU hp (by rw [l2];exact hz) zn sP;have qi:bH n m2=true:=mH hK h1 hw hC hU zn (by omega);refine ⟨m4,?_,⟨s4.len.trans l2,s4.wid,s4.low,s4.upp,s4.pos,by rw [<- l2];exact s4.zero,s4.red⟩⟩;rw [dI,if_pos hok,ha];simp only;rw [pP];simp only;rw [if_pos qi,e4]
theorem A3_ {n c d K U Y : Nat} (hK : K <= 400000000) (h1 : 1 <= K) (Ak : 2 * Y + 2 < 10 ^ K) (sP : U + 2 < 10 ^ K) (pos : Bool) :
    ∀ (F : Nat) (m : oe) (B M a : Nat), d < m.length -> bB n m -> ee d B m -> eF d U m -> jI d c M m -> lP d c pos m -> an c d m (m.length - d) = some a -> B * (M * M * (aC m a c).natAbs) <= Y -> (aC m a c).natAbs < F ->
      ∃ m', dI n c d F m = some (m', true) /\ mg n d c (2 * Y) U m m'
  | 0, m, B, M, a, _, _, _, _, _, _, _, _, hF => by omega
  | f + 1, m, B, M, a, hd, hw, hB, hU, hM, hS, ha, hY, hF => by
    obtain ⟨b1, b2, b3, b4⟩ := gh ha;have pT : a < m.length := by omega
    obtain ⟨p, hp⟩ : ∃ p, p = (aC m a c).natAbs := ⟨_, rfl⟩;rw [<- hp] at hY hF;have hp1 : 1 <= p := by omega
    have Er : p <= M := by rw [hp]; exact hM a b1 pT
    have GA : M * B <= Y := by
      refine oJ ?_ hY;rw [Nat.mul_comm M B];refine Nat.mul_le_mul_left _ ?_
      calc M = M * 1 * 1 := by omega
        _ <= M * M * p := Nat.mul_le_mul (Nat.mul_le_mul_left _ (by omega)) hp1
    have Ln : B <= Y := oJ (Nat.le_mul_of_pos_left B (by omega)) GA;have rH : ∀ i, d <= i -> i < m.length -> Z3D (aC m i c) (aC m a c) := by
      intro i h2 h3;have s1 := hS i h2 h3;have s2 := hS a b1 pT;cases pos
      · exact .inr ⟨by simpa using s1, by have : aC m a c <= 0 := by simpa using s2
                                          omega⟩
      · exact .inl ⟨by simpa using s1, by have : 0 <= aC m a c := by simpa using s2
                                          omega⟩
    have hQ : ∀ i, d <= i -> i < m.length -> (aN (aC m i c) (aC m a c)).natAbs <= M / p := by
      intro i h2 h3;rw [Nat.le_div_iff_mul_le (by omega), hp];exact oJ (ly _ _ (rH i h2 h3)).1 (hM i h2 h3)
    obtain ⟨m2, rest, e1, l2, w2, wY, wX, p2, r2, c2, z2, t2⟩ := K2_ hK h1 hd hw hB hU hM ha (by omega) hQ;have Av : (B + M / p * B) * p <= 2 * (M * B) := by
      rw [Nat.add_mul];have h5 : B * p <= M * B := by rw [Nat.mul_comm M B]; exact Nat.mul_le_mul_left _ Er
      have h6 : M / p * B * p <= M * B := by
        rw [Nat.mul_right_comm];exact Nat.mul_le_mul_right _ (Nat.div_mul_le_self M p)
      omega
    have hok : bH n m = true := mH hK h1 hw hB hU (by omega) (by omega);cases rest with
    | false =>
      have Au : B + M / p * B <= 2 * Y := by
        have : B + M / p * B <= (B + M / p * B) * p := Nat.le_mul_of_pos_right _ (by omega);omega
      exact G3_ hK h1 hd hok ha e1 l2 w2 (fun i h2 h3 => (wY i h2 h3).mono Au) wX (by rw [p2]; exact b3) (z2 rfl) (by omega) sP
    | true =>
      obtain ⟨i, i1, i2, i3⟩ := t2 rfl;obtain ⟨k, k1, k2, k3⟩ := c2 i i1 i2;obtain ⟨a', xk⟩ : ∃ a', an c d m2 (m2.length - d) = some a' := by
        cases hb : an c d m2 (m2.length - d) with
        | none => exact absurd (jm hb i (by omega) (by omega)) i3
        | some a' => exact ⟨a', rfl⟩
      obtain ⟨q1, q2, q3, q4⟩ := gh xk;obtain ⟨p', rZ⟩ : ∃ p', p' = (aC m2 a' c).natAbs := ⟨_, rfl⟩;have AK : p' <= (aC m2 i c).natAbs := by rw [rZ]; exact q4 i (by omega) (by omega) i3
      have hfs := ly _ _ (rH k k1 k2);have hlt : (aC m2 i c).natAbs < p := by rw [k3, hp]; exact (iP _ _ b3).2
      have xW : 2 * p' <= M := by
        have rJ : aC m k c ≠ 0 := by
          intro h0;have h9 := hfs.2.1;rw [<- k3, h0] at h9;simp only [Int.natAbs_zero] at h9;omega
        have h7 := hfs.2.2.2 (b4 k k1 (by omega) rJ);have h8 := hM k k1 k2;rw [<- k3] at h7;omega
      have sC : jI d c p m2 := by
        intro j j1 j2;by_cases hj : j = d;· rw [hj, p2, hp]; exact oK _
        · obtain ⟨k', wa, wZ, sS⟩ := c2 j (by omega) (by omega)
          rw [sS, hp]; exact Nat.le_of_lt (iP _ _ b3).2
      have vE : lP d c pos m2 := by
        intro j j1 j2;by_cases hj : j = d;· rw [hj, p2]; exact hS a b1 pT
        · obtain ⟨k', wa, wZ, sS⟩ := c2 j (by omega) (by omega)
          rw [sS];have s2 := hS a b1 pT;have h9 := (ly _ _ (rH k' wa wZ)).2.2.1;cases pos
          · have : aC m a c <= 0 := by simpa using s2
            have : aq (aC m k' c) (aC m a c) <= 0 := by rcases h9 with ⟨g1, g2⟩ | ⟨g1, g2⟩ <;> omega
            simpa using this
          · have : 0 <= aC m a c := by simpa using s2
            have : 0 <= aq (aC m k' c) (aC m a c) := by rcases h9 with ⟨g1, g2⟩ | ⟨g1, g2⟩ <;> omega
            simpa using this
      have Al : (B + M / p * B) * (p * p * (aC m2 a' c).natAbs) <= Y := by
        rw [<- rZ]
        calc (B + M / p * B) * (p * p * p') = (B + M / p * B) * p * (p * p') := by simp only [Nat.mul_assoc]
          _ <= 2 * (M * B) * (p * p') := Nat.mul_le_mul_right _ Av
          _ = M * B * p * (2 * p') := by simp only [Nat.mul_assoc, Nat.mul_left_comm, Nat.mul_comm]
          _ <= M * B * p * M := Nat.mul_le_mul_left _ xW
          _ = B * (M * M * p) := by simp only [Nat.mul_assoc, Nat.mul_left_comm, Nat.mul_comm]
          _ <= Y := hY
      obtain ⟨m', e', s'⟩ := A3_ hK h1 Ak sP pos f m2 (B + M / p * B) p a' (by omega) w2 wY wX sC vE xk Al (by omega);exact ⟨m', (A4_ hok ha e1).trans e', ⟨s'.len.trans l2, s'.wid, s'.low, s'.upp, s'.pos, by rw [<- l2]; exact s'.zero, s'.red⟩⟩
theorem Z4K {n c d K U B F:Nat} {m:oe} (hK:K<=400000000) (h1:1<=K) (Ak:2*(3*(B*B*(B*B)))+2<10^K) (qb:B+2<10^K) (sP:U+2<10^K) (hF:B<F) (hd:d<m.length) (hw:bB n m) (hB:ee d B m) (hU:eF d U m) :
  (dI n c d F m=some (m,false)/\∀ i,d<=i->i<m.length->aC m i c=0)\/∃ m',dI n c d F m=some (m',true)/\mg n d c (2*(3*(B*B*(B*B)))) U m m':=by
 obtain ⟨f,rfl⟩:∃ f,F=f+1:=⟨F-1,by omega⟩;have hok:bH n m=true:=mH hK h1 hw hB hU (by omega) (by omega);cases ha:an c d m (m.length-d) with
 | none=>exact .inl ⟨by rw [dI,if_pos hok,ha],fun i h2 h3=>jm ha i h2 (by omega)⟩
 | some a =>
  right;obtain ⟨b1,b2,b3,b4⟩:=gh ha;have pT:a<m.length:=by omega
  obtain ⟨p,hp⟩:∃ p,p=(aC m a c).natAbs:=⟨_,rfl⟩;have hM:jI d c B m:=fun i h2 h3=>(hB i h2 h3).getD c;have hp1:1<=p:=by omega
  have CK:p<=B:=by rw [hp];exact hM a b1 pT
  have hQ:∀ i,d<=i->i<m.length->(aN (aC m i c) (aC m a c)).natAbs<=(2*B) / p:=by
   intro i h2 h3;rw [Nat.le_div_iff_mul_le (by omega),hp];have h5:=(iP (aC m i c) (aC m a c) b3).1;have h6:=hM i h2 h3;omega
  obtain ⟨m2,rest,e1,l2,w2,wY,wX,p2,r2,c2,z2,t2⟩:=K2_ hK h1 hd hw hB hU hM ha qb hQ;have Av:(B+(2*B) / p*B)*p<=3*(B*B):=by
   rw [Nat.add_mul];have h5:B*p<=B*B:=Nat.mul_le_mul_left _ CK;have h6:(2*B) / p*B*p<=2*B*B:=by
    rw [Nat.mul_right_comm];exact Nat.mul_le_mul_right _ (Nat.div_mul_le_self _ p)
   have h7:2*B*B=2*(B*B):=Nat.mul_assoc _ _ _;omega
  have Lo:B*B<=B*B*(B*B):=Nat.le_mul_of_pos_right _ (Nat.mul_pos (by omega) (by omega));cases rest with
  | false =>
   have Au:B+(2*B) / p*B<=2*(3*(B*B*(B*B))):=by
    have:B+(2*B) / p*B<=(B+(2*B) / p*B)*p:=Nat.le_mul_of_pos_right _ (by omega);omega
   exact G3_ hK h1 hd hok ha e1 l2 w2 (fun i h2 h3=>(wY i h2 h3).mono Au) wX (by rw [p2];exact b3) (z2 rfl) (by omega) sP
  | true =>
   obtain ⟨i,i1,i2,i3⟩:=t2 rfl;obtain ⟨k,k1,k2,k3⟩:=c2 i i1 i2;obtain ⟨a',xk⟩:∃ a',an c d m2 (m2.length-d)=some a':=by
    cases hb:an c d m2 (m2.length-d) with
    | none=>exact absurd (jm hb i (by omega) (by omega)) i3
    | some a'=>exact ⟨a',rfl⟩
   obtain ⟨q1,q2,q3,q4⟩:=gh xk;obtain ⟨p',rZ⟩:∃ p',p'=(aC m2 a' c).natAbs:=⟨_,rfl⟩;have AK:p'<=(aC m2 i c).natAbs:=(by rw [rZ];exact q4 i (by omega) (by omega) i3);have hlt:(aC m2 i c).natAbs<p:=(by rw [k3,hp];exact (iP _ _ b3).2);have sC:jI d c p m2:=by
    intro j j1 j2;by_cases hj:j=d;·rw [hj,p2,hp];exact oK _
    ·obtain ⟨k',wa,wZ,sS⟩:=c2 j (by omega) (by omega);rw [sS,hp];exact Nat.le_of_lt (iP _ _ b3).2
   have vE:lP d c (decide (0<aC m a c)) m2:=by
    intro j j1 j2;have xU:0<aC m a c->0<=aC m2 j c:=by
     intro hpos;by_cases hj:j=d;·rw [hj,p2];omega
     ·obtain ⟨k',wa,wZ,sS⟩:=c2 j (by omega) (by omega);rw [sS];exact (jv _ _ hpos).1
    have FH:aC m a c<0->aC m2 j c<=0:=by
     intro hneg;by_cases hj:j=d;·rw [hj,p2];omega
     ·obtain ⟨k',wa,wZ,sS⟩:=c2 j (by omega) (by omega);rw [sS];exact (lz _ _ hneg).2
    by_cases hpos:0<aC m a c;·simp only [hpos,decide_true,if_true];exact xU hpos
    ·simp only [hpos,decide_false];exact FH (by omega)
   have Al:(B+(2*B) / p*B)*(p*p*(aC m2 a' c).natAbs)<=3*(B*B*(B*B)):=by
    rw [<- rZ]
    calc (B+(2*B) / p*B)*(p*p*p')=(B+(2*B) / p*B)*p*(p*p'):=by simp only [Nat.mul_assoc]
     _<=3*(B*B)*(p*p'):=Nat.mul_le_mul_right _ Av
     _<=3*(B*B)*(B*B):=Nat.mul_le_mul_left _ (Nat.mul_le_mul CK (by omega))
     _=3*(B*B*(B*B)):=Nat.mul_assoc _ _ _
   obtain ⟨m',e',s'⟩:=A3_ hK h1 Ak sP (decide (0<aC m a c)) f m2 (B+(2*B) / p*B) p a' (by omega) w2 wY wX sC vE xk Al (by omega);exact ⟨m',(A4_ hok ha e1).trans e',⟨s'.len.trans l2,s'.wid,s'.low,s'.upp,s'.pos,by rw [<- l2];exact s'.zero,s'.red⟩⟩
def fs (n:Nat):Nat->Nat->Nat->List Nat
 | 0,_,s=>[s]
 | k+1,f,s=>(List.range (n-k-f)).flatMap fun d=>fs n k (f+d+1) (s ||| (1 <<< (f+d)))
def aS (n k:Nat):List Nat:=fs n k 0 0
def gG (n k f s d:Nat):List Nat:=(List.range d).flatMap fun d=>fs n k (f+d+1) (s ||| (1 <<< (f+d)))
theorem M3_ (n k f s d:Nat):gG n k f s (d+1)=gG n k f s d++fs n k (f+d+1) (s ||| (1 <<< (f+d))):=by
 unfold gG;rw [List.range_succ,List.flatMap_append];simp
theorem f2_ (n k f s:Nat):fs n (k+1) f s=gG n k f s (n-k-f):=rfl
theorem Z6o {s i m:Nat} (hs:s<2^m) (hi:i<m):s ||| (1 <<< i)<2^m:=by
 rw [Nat.one_shiftLeft];exact Nat.or_lt_two_pow hs (Nat.pow_lt_pow_right (by decide) hi)
theorem G6_ {n m:Nat} (Ey:n<=m):∀ (k f s:Nat),s<2^m->k<=n->∀ x∈fs n k f s,x<2^m
 | 0,f,s,hs,_,x,hx=>by
  rw [fs,List.mem_singleton] at hx;rw [hx];exact hs
 | k+1,f,s,hs,hk,x,hx=>by
  rw [fs,List.mem_flatMap] at hx;obtain ⟨d,hd,hx⟩:=hx;have:=List.mem_range.1 hd;exact G6_ Ey k _ _ (Z6o hs (by omega)) (by omega) x hx
theorem lU {n k:Nat} (hn:n<=12) (hk:k<=n):∀ x∈aS n k,x<4096:=G6_ hn k 0 0 (by decide) hk
theorem lT {n k:Nat} (hn:n<=12) (hk:k<=n):(aS n k).length<=924:=by
 have h:∀ m,m<=12->∀ j,j<=m->(aS m j).length<=924:=by decide +kernel
 exact h n hn k hk
def az (s:Nat):List Nat:=(List.range 12).filter fun i=>s.testBit i
def iS (s:Nat):Nat:=(az s).headD 0
theorem C8_:∀ s,s<4096->s≠0->az s=iS s::az (s &&& (s-1)):=by
 have h:∀ a,a<64->∀ b,b<64->64*a+b≠0->az (64*a+b)=iS (64*a+b)::az ((64*a+b) &&& (64*a+b-1)):=by decide +kernel
 intro s hs h0;have:=h (s / 64) (by omega) (s%64) (by omega) (by omega)
 rwa [Nat.div_add_mod] at this
theorem l0_:∀ s,s<4096->s≠0->s &&& (s-1)<s:=by
 have h:∀ a,a<64->∀ b,b<64->64*a+b≠0->(64*a+b) &&& (64*a+b-1)<64*a+b:=by decide +kernel
 intro s hs h0;have:=h (s / 64) (by omega) (s%64) (by omega) (by omega)
 rwa [Nat.div_add_mod] at this
def nR (s:List Nat):Nat:=match s.getLast? with | some x=>x+1 | none=>0
def Z5w (n:Nat) (l:List (List Nat)):List (List Nat):=l.flatMap fun s=>(List.range' (nR s) (n-nR s)).map fun x=>s++[x]
def be (n:Nat):Nat->List (List Nat)
 | 0=>[[]]
 | k+1=>Z5w n (be n k)
def ie (n k:Nat) (s:List Nat):Nat->Option Nat
 | 0=>none
 | i+1=>if s.getD i 0+k=n+i then ie n k s i else some i
def j9 (n k:Nat) (s:List Nat):Option (List Nat):=match ie n k s k with
 | none=>none
 | some i=>some (s.take i++(List.range (k-i)).map fun j=>s.getD i 0+1+j)
def ix (s:List Nat):Nat:=s.foldl (fun a x=>a*16+x) 0
def kV (n k:Nat):List (List Nat)->Bool
 | []=>false
 | [s]=>decide (j9 n k s=none)
 | s::t::l=>decide (j9 n k s=some t) && (decide (ix s<ix t) && kV n k (t::l))
def Z6u (n k:Nat) (s:List Nat):Bool:=decide (s.length=k) && (s.all (fun x=>decide (x<n)) && decide (ix s<1000000000000000000))
def du (n:Nat):Nat->Nat
 | 0=>1
 | i+1=>du n i*(n-i) / (i+1)
def Z55 (n k:Nat):Bool:=decide ((be n k).head?=some (List.range k)) && kV n k (be n k) && (be n k).all (Z6u n k) && decide (du n k=(be n k).length) && decide ((be n k).length<=1000)
theorem Z4G:∀ n,n<13->∀ k,k<n+1->Z55 n k=true:=by decide +kernel
theorem t1_ {n k:Nat}:∀ {l:List (List Nat)},kV n k l=true->∀ (i:Nat) s,l[i]?=some s->j9 n k s=l[i+1]?
 | [],h,i,s,hs=>by simp at hs
 | [t],h,i,s,hs=>by
  cases i with
  | zero =>
   simp only [oQ,Option.some.injEq] at hs;subst hs;simpa [kV] using h
  | succ i=>simp at hs
 | a::b::l,h,i,s,hs=>by
  simp only [kV,Bool.and_eq_true,decide_eq_true_eq] at h;cases i with
  | zero =>
   simp only [oQ,Option.some.injEq] at hs;subst hs;simpa using h.1
  | succ i =>
   rw [oP] at hs |-;exact t1_ h.2.2 i s hs
theorem e2_ {n k:Nat}:∀ {l:List (List Nat)},kV n k l=true->∀ (i:Nat) s t,l[i]?=some s->l[i+1]?=some t->ix s<ix t
 | [],h,i,s,t,hs,ht=>by simp at hs
 | [a],h,i,s,t,hs,ht=>by simp at ht
 | a::b::l,h,i,s,t,hs,ht=>by
  simp only [kV,Bool.and_eq_true,decide_eq_true_eq] at h;cases i with
  | zero =>
   simp only [oQ,oP,Option.some.injEq] at hs ht;subst hs;subst ht;exact h.2.1
  | succ i =>
   rw [oP] at hs ht;exact e2_ h.2.2 i s t hs ht
structure Z67 (n k:Nat) (L:List (List Nat)):Prop where
 head:L[0]?=some (List.range k)
 next:∀ (i:Nat) s,L[i]?=some s->j9 n k s=L[i+1]?
 len:∀ s∈L,s.length=k
 lt:∀ s∈L,∀ x∈s,x<n
 up:∀ (i:Nat) s t,L[i]?=some s->L[i+1]?=some t->ix s<ix t
 bd:∀ s∈L,ix s<1000000000000000000
theorem lG {n k:Nat} (hn:n<=12) (hk:k<=n):Z67 n k (be n k)/\du n k=(be n k).length/\(be n k).length<=1000:=by
 have h:=Z4G n (by omega) k (by omega);simp only [Z55,Bool.and_eq_true,decide_eq_true_eq,List.all_eq_true,Z6u] at h;obtain ⟨⟨⟨⟨h1,h2⟩,h3⟩,h4⟩,h5⟩:=h;exact ⟨⟨by rw [<- List.head?_eq_getElem?];exact h1,t1_ h2,fun s hs=>(h3 s hs).1,fun s hs=>(h3 s hs).2.1,e2_ h2,fun s hs=>(h3 s hs).2.2⟩,h4,h5⟩
def b8 (n k s:Nat):Nat:=(aS n k).findIdx (· == s)
def iq (s i:Nat):Nat:=((az s).filter fun j=>decide (j<i)).length
def dz (s t:Nat):Bool:=decide (((az s).map (iq t)).sum%2=1)
def fJ:Nat->List Nat->List Nat->Option (List Nat)
 | 0,_,_=>none
 | _+1,[],b=>some b
 | _+1,a,[]=>some a
 | f+1,x::a,y::b=>if x=y then none else if x<y then (fJ f a (y::b)).map (x::·) else (fJ f (x::a) b).map (y::·)
def x8_ (a b:List Nat):Option (List Nat):=fJ (a.length+b.length+1) a b
def Z54 (l:List (List Nat)) (s:List Nat):Nat:=l.findIdx (· == s)
def Z1u (n k:Nat):Bool:=decide ((aS n k).map az=be n k) && ((aS n k).all fun s=>decide (b8 n k s=Z54 (be n k) (az s)) && decide (b8 n k s<(be n k).length))
theorem u3_:∀ n,n<7->∀ k,k<n+1->Z1u n k=true:=by decide +kernel
theorem Z1v:∀ n,n<13->∀ k,k<n+1->(aS n k).length=(be n k).length:=by decide +kernel
def dc (x:Int) (o:Bool):Int:=if o=true then -x else x
theorem v6_ (x:Int) (o:Bool):(dc x o).natAbs=x.natAbs:=by unfold dc;split <;> simp
def lM (N:Nat) (l:og):Prop:=∀ x∈l,x.natAbs<=N
theorem lM.getD {N:Nat} {l:og} (h:lM N l) (i:Nat):(l.getD i 0).natAbs<=N:=by
 rw [oD];cases hx:l[i]? with
 | none=>simp
 | some x=>exact h x (oE hx)
def ea (n s:Nat):Nat:=(2^n-1) ^^^ s
def Z5q (n k:Nat) (X:og):List Int:=(aS n (n-k)).map fun s=>dc (X.getD (b8 n k (ea n s)) 0) (dz (ea n s) s)
def dZ (n k:Nat) (X r:og) (s:Nat):Nat->Int
 | 0=>0
 | i+1=>if s.testBit i=true then dZ n k X r s i else dZ n k X r s i+dc (r.getD i 0*X.getD (b8 n k (s ||| (1 <<< i))) 0) (dz (1 <<< i) s)
def Z6L (n k:Nat) (X r:og):List Int:=(aS n (k-1)).map fun s=>dZ n k X r s n
def dW (X:og) (i:Nat):Nat:=(X.take i).foldl (fun g x=>Nat.gcd g x.natAbs) 0
def bW (X:og):Nat:=dW X X.length
theorem kX {X:og} {i:Nat} {x:Int} (h:X[i]?=some x):dW X (i+1)=Nat.gcd (dW X i) x.natAbs:=by
 unfold dW;rw [oH,h,List.foldl_append];rfl
def dp (X:og):Int:=match X.find? (·≠0) with | some x=>x.sign | none=>0
theorem f8_ {c d:Nat} {m:oe}:∀ {k a:Nat},an c d m k=some a->d<=a
 | 0,a,h=>by cases h
 | k+1,a,h=>by
  unfold an at h;cases hb:an c d m k with
  | none =>
   rw [hb] at h;simp only at h
   split at h
   ·cases h
   ·cases h;omega
  | some b =>
   rw [hb] at h;simp only at h;have:=f8_ hb
   split at h
   ·cases h;omega
   ·cases h;exact this
def dD (n c d:Nat):Nat->oe->Option (oe×Bool)
 | 0,_=>none
 | f+1,m =>
  if bH n m then
   match an c d m (m.length-d) with
   | none=>some (m,false)
   | some a=>match cB c d (a8 m d a) (m.length-(d+1)) with
    | none=>none
    | some (m2,true)=>dD n c d f m2
    | some (m2,false)=>some (m2,true)
  else none
theorem iu (n c d f:Nat) (m:oe):dD n c d (f+1) m=if bH n m then
   match an c d m (m.length-d) with
   | none=>some (m,false)
   | some a=>match cB c d (a8 m d a) (m.length-(d+1)) with
    | none=>none
    | some (m2,true)=>dD n c d f m2
    | some (m2,false)=>some (m2,true)
  else none:=rfl
def upW (c d:Nat) (m:oe):Option (oe):=cR c d (if aC m d c<0 then m.set d ((aD m d).map (- ·)) else m) d
theorem n8_ (n c d:Nat):∀ (F:Nat) (m:oe),dI n c d F m=match dD n c d F m with
  | none=>none
  | some (m',false)=>some (m',false)
  | some (m',true)=>if bH n m' then (match upW c d m' with | none=>none | some m4=>some (m4,true)) else none
 | 0,_=>rfl
 | F+1,m=>by
  rw [iu];unfold dI;by_cases h:bH n m=true
  ·rw [if_pos h,if_pos h];cases an c d m (m.length-d) with
   | none=>rfl
   | some a =>
    simp only;cases cB c d (a8 m d a) (m.length-(d+1)) with
    | none=>rfl
    | some r =>
     obtain ⟨m2,b⟩:=r;cases b;·rfl
     ·exact n8_ n c d F m2
  ·rw [if_neg h,if_neg h]
def bO (n k:Nat):List Nat:=if k=n then [] else aS n (k+1)
def cZ (n k:Nat) (X:og) (i s:Nat):Int:=if s.testBit i=true then dc (X.getD (b8 n k (s ^^^ (1 <<< i))) 0) (dz (1 <<< i) (s ^^^ (1 <<< i))) else 0
def Z4P (n i:Nat):List Int:=(List.replicate n (0:Int)).set i 1
def gB (n k:Nat) (X:og) (i:Nat):List Int:=(bO n k).map (cZ n k X i)++Z4P n i
def bu (n k:Nat) (X:og):oe:=(List.range n).map (gB n k X)
def fW (N F:Nat) (m:oe):Nat->Option (oe×Nat)
 | 0=>some (m,0)
 | c+1=>match fW N F m c with
  | none=>none
  | some (m1,d)=>match dD N c d F m1 with
   | none=>none
   | some (m2,p)=>some (m2,if p then d+1 else d)
theorem j4 (N F:Nat) (m:oe) (c:Nat):fW N F m (c+1)=match fW N F m c with
  | none=>none
  | some (m1,d)=>match dD N c d F m1 with
   | none=>none
   | some (m2,p)=>some (m2,if p then d+1 else d):=rfl
def fX (F n k:Nat) (X:og):Option (oe) :=
 match fW ((bO n k).length+n) F (bu n k X) (bO n k).length with
 | none=>none
 | some (m,d)=>some ((m.drop d).map (·.drop (bO n k).length))
def kZ (n F:Nat) (m:oe):Option (oe):=(b9 n F n 0 0 m).map (·.1)
theorem j3 {n k i s:Nat} {X:og} (h:s.testBit i=true):cZ n k X i s=dc (X.getD (b8 n k (s ^^^ (1 <<< i))) 0) (dz (1 <<< i) (s ^^^ (1 <<< i))):=if_pos h
theorem ku {n k i s:Nat} {X:og} (h:s.testBit i=false):cZ n k X i s=0:=if_neg (by rw [h];decide)
theorem my {n c d:Nat}:∀ {F:Nat} {m m':oe} {p:Bool},dD n c d F m=some (m',p)->d<=m.length->m'.length=m.length/\(p=true->d<m.length)/\(∀ i,i<d->aD m' i=aD m i)
 | 0,m,m',p,h,_=>by cases h
 | F+1,m,m',p,h,hd=>by
  rw [iu] at h;by_cases hok:bH n m=true
  ·rw [if_pos hok] at h;cases hb:an c d m (m.length-d) with
   | none =>
    rw [hb] at h;simp only [Option.some.injEq,Prod.mk.injEq] at h;obtain ⟨rfl,rfl⟩:=h;exact ⟨rfl,(fun e=>by cases e),fun _ _=>rfl⟩
   | some a =>
    rw [hb] at h;simp only at h;have hdl:d<m.length:=by
     by_cases e:d<m.length;·exact e
     ·rw [show m.length-d=0 by omega] at hb;cases hb
    cases pP:cB c d (a8 m d a) (m.length-(d+1)) with
    | none=>rw [pP] at h;cases h
    | some r =>
     obtain ⟨m2,b⟩:=r;rw [pP] at h;obtain ⟨k1,k2,k3⟩:=jt pP (by rw [jc];omega);rw [jc] at k1;have k4:∀ i,i<d->aD m2 i=aD m i:=fun i hi=>by
      rw [k2 i (by omega)];have hsw:(a8 m d a)[i]?=m[i]?:=by
       unfold a8
       split
       ·rename_i x y hx hy;have LM:a≠i\/¬ a<m.length:=by
         by_cases e:a=i;·exact absurd (f8_ hb) (by omega)
         ·exact .inl e
        rw [oW,oW];rw [if_neg (by rcases LM with e | e;exact e;intro e2;omega),if_neg (by omega)]
       ·rfl
      unfold aD;rw [oD,oD,hsw]
     cases b with
     | false =>
      simp only [Option.some.injEq,Prod.mk.injEq] at h;obtain ⟨rfl,rfl⟩:=h;exact ⟨k1,fun _=>hdl,k4⟩
     | true =>
      have ih:=my (F:=F) h (by omega);exact ⟨by rw [ih.1,k1],fun _=>hdl,fun i hi=>by rw [ih.2.2 i hi,k4 i hi]⟩
  ·rw [if_neg hok] at h;cases h
theorem q4_ {N F : Nat} {m : oe} {C : Nat} : ∀ {y}, fW N F m C = some y -> ∀ j, j <= C -> ∃ z, fW N F m j = some z := by
  induction C with
  | zero => intro y h j hj; obtain rfl : j = 0 := by omega
            exact ⟨y, h⟩
  | succ C ih =>
    intro y h j hj;by_cases he : j = C + 1;· subst he; exact ⟨y, h⟩
    · rw [j4] at h
      cases hc : fW N F m C with
      | none => rw [hc] at h; cases h
      | some z => exact ih hc j (by omega)
theorem J9_ {N F:Nat} {m:oe}:∀ (C:Nat) {m1:oe} {d:Nat},fW N F m C=some (m1,d)->m1.length=m.length/\d<=m.length
 | 0,m1,d,h=>by
  have h:some (m,0)=some (m1,d):=h;simp only [Option.some.injEq,Prod.mk.injEq] at h;obtain ⟨rfl,rfl⟩:=h;exact ⟨rfl,Nat.zero_le _⟩
 | C+1,m1,d,h=>by
  rw [j4] at h;cases hc:fW N F m C with
  | none=>rw [hc] at h;cases h
  | some z =>
   obtain ⟨m0,d0⟩:=z;rw [hc] at h;simp only at h;obtain ⟨l1,l2⟩:=J9_ C hc;cases hw:dD N C d0 F m0 with
   | none=>rw [hw] at h;cases h
   | some r =>
    obtain ⟨m2,p⟩:=r;rw [hw] at h;simp only [Option.some.injEq,Prod.mk.injEq] at h;obtain ⟨rfl,rfl⟩:=h;obtain ⟨q1,q2,-⟩:=my hw (by omega);refine ⟨by omega,?_⟩;cases p;·exact l2
    ·have:=q2 rfl;simp;omega
structure CoR (n d c C U:Nat) (m m':oe):Prop where
 len:m'.length=m.length
 wid:bB n m'
 low:ee d C m'
 upp:eF d U m'
 pos:aC m' d c≠0
 zero:∀ i,d<i->i<m.length->aC m' i c=0
theorem e4_ {n c d a f:Nat} {m m2:oe} (hok:bH n m=true) (ha:an c d m (m.length-d)=some a) (pP:cB c d (a8 m d a) (m.length-(d+1))=some (m2,true)):dD n c d (f+1) m=dD n c d f m2:=by
 rw [iu,if_pos hok,ha];simp only;rw [pP]
theorem t7_ {n c d a f K C U:Nat} {m m2:oe} (hK:K<=400000000) (h1:1<=K) (hd:d<m.length) (hok:bH n m=true) (ha:an c d m (m.length-d)=some a) (pP:cB c d (a8 m d a) (m.length-(d+1))=some (m2,false))
  (l2:m2.length=m.length) (hw:bB n m2) (hC:ee d C m2) (hU:eF d U m2) (hp:aC m2 d c≠0) (hz:∀ i,d<i->i<m.length->aC m2 i c=0) (zn:C<10^K) (sP:U+2<10^K) :
  ∃ m',dD n c d (f+1) m=some (m',true)/\CoR n d c C U m m' :=
 ⟨m2,by rw [iu,if_pos hok,ha];simp only;rw [pP],⟨l2,hw,hC,hU,hp,hz⟩⟩
theorem e3_ {n c d K U Y:Nat} (hK:K<=400000000) (h1:1<=K) (Ak:2*Y+2<10^K) (sP:U+2<10^K) (pos:Bool) :
  ∀ (F:Nat) (m:oe) (B M a:Nat),d<m.length->bB n m->ee d B m->eF d U m->jI d c M m->lP d c pos m->an c d m (m.length-d)=some a->B*(M*M*(aC m a c).natAbs)<=Y->(aC m a c).natAbs<F ->
   ∃ m',dD n c d F m=some (m',true)/\CoR n d c (2*Y) U m m'
 | 0,m,B,M,a,_,_,_,_,_,_,_,_,hF=>by omega
 | f+1,m,B,M,a,hd,hw,hB,hU,hM,hS,ha,hY,hF=>by
  obtain ⟨b1,b2,b3,b4⟩:=gh ha;have pT:a<m.length:=by omega
  obtain ⟨p,hp⟩:=oc ((aC m a c).natAbs);rw [<- hp] at hY hF;have hp1:1<=p:=by omega
  have Er:p<=M:=by rw [hp];exact hM a b1 pT
  have GA:M*B<=Y:=by
   refine oJ ?_ hY;rw [Nat.mul_comm M B];refine Nat.mul_le_mul_left _ ?_
   calc M=M*1*1:=by omega
    _<=M*M*p:=Nat.mul_le_mul (Nat.mul_le_mul_left _ (by omega)) hp1
  have Ln:B<=Y:=oJ (Nat.le_mul_of_pos_left B (by omega)) GA;have rH:∀ i,d<=i->i<m.length->Z3D (aC m i c) (aC m a c):=by
   intro i h2 h3;have s1:=hS i h2 h3;have s2:=hS a b1 pT;cases pos;·exact .inr ⟨by simpa using s1,by have:aC m a c<=0:=(by simpa using s2);omega⟩
   ·exact .inl ⟨by simpa using s1,by have:0<=aC m a c:=(by simpa using s2);omega⟩
  have hQ:∀ i,d<=i->i<m.length->(aN (aC m i c) (aC m a c)).natAbs<=M / p:=by
   intro i h2 h3;rw [Nat.le_div_iff_mul_le (by omega),hp];exact oJ (ly _ _ (rH i h2 h3)).1 (hM i h2 h3)
  obtain ⟨m2,rest,e1,l2,w2,wY,wX,p2,r2,c2,z2,t2⟩:=K2_ hK h1 hd hw hB hU hM ha (by omega) hQ;have Av:(B+M / p*B)*p<=2*(M*B):=by
   rw [Nat.add_mul];have h5:B*p<=M*B:=(by rw [Nat.mul_comm M B];exact Nat.mul_le_mul_left _ Er);have h6:M / p*B*p<=M*B:=by
    rw [Nat.mul_right_comm];exact Nat.mul_le_mul_right _ (Nat.div_mul_le_self M p)
   omega
  have hok:bH n m=true:=mH hK h1 hw hB hU (by omega) (by omega);cases rest with
  | false =>
   have Au:B+M / p*B<=2*Y:=by
    have:B+M / p*B<=(B+M / p*B)*p:=Nat.le_mul_of_pos_right _ (by omega);omega
   exact t7_ hK h1 hd hok ha e1 l2 w2 (fun i h2 h3=>(wY i h2 h3).mono Au) wX (by rw [p2];exact b3) (z2 rfl) (by omega) sP
  | true =>
   obtain ⟨i,i1,i2,i3⟩:=t2 rfl;obtain ⟨k,k1,k2,k3⟩:=c2 i i1 i2;obtain ⟨a',xk⟩:∃ a',an c d m2 (m2.length-d)=some a':=by
    cases hb:an c d m2 (m2.length-d) with
    | none=>exact absurd (jm hb i (by omega) (by omega)) i3
    | some a'=>exact ⟨a',rfl⟩
   obtain ⟨q1,q2,q3,q4⟩:=gh xk;obtain ⟨p',rZ⟩:∃ p',p'=(aC m2 a' c).natAbs:=⟨_,rfl⟩;have AK:p'<=(aC m2 i c).natAbs:=(by rw [rZ];exact q4 i (by omega) (by omega) i3);have hfs:=ly _ _ (rH k k1 k2);have hlt:(aC m2 i c).natAbs<p:=(by rw [k3,hp];exact (iP _ _ b3).2);have xW:2*p'<=M:=by
    have rJ:aC m k c≠0:=by
     intro h0;have h9:=hfs.2.1;rw [<- k3,h0] at h9;simp only [Int.natAbs_zero] at h9;omega
    have h7:=hfs.2.2.2 (b4 k k1 (by omega) rJ);have h8:=hM k k1 k2;rw [<- k3] at h7;omega
   have sC:jI d c p m2:=by
    intro j j1 j2;by_cases hj:j=d;·rw [hj,p2,hp];exact oK _
    ·obtain ⟨k',wa,wZ,sS⟩:=c2 j (by omega) (by omega);rw [sS,hp];exact Nat.le_of_lt (iP _ _ b3).2
   have vE:lP d c pos m2:=by
    intro j j1 j2;by_cases hj:j=d;·rw [hj,p2];exact hS a b1 pT
    ·obtain ⟨k',wa,wZ,sS⟩:=c2 j (by omega) (by omega);rw [sS];have s2:=hS a b1 pT;have h9:=(ly _ _ (rH k' wa wZ)).2.2.1;cases pos
     ·have:aC m a c<=0:=(by simpa using s2);have:aq (aC m k' c) (aC m a c)<=0:=by rcases h9 with ⟨g1,g2⟩ | ⟨g1,g2⟩ <;> omega
      simpa using this
     ·have:0<=aC m a c:=(by simpa using s2);have:0<=aq (aC m k' c) (aC m a c):=by rcases h9 with ⟨g1,g2⟩ | ⟨g1,g2⟩ <;> omega
      simpa using this
   have Al:(B+M / p*B)*(p*p*(aC m2 a' c).natAbs)<=Y:=by
    rw [<- rZ]
    calc (B+M / p*B)*(p*p*p')=(B+M / p*B)*p*(p*p'):=by simp only [Nat.mul_assoc]
     _<=2*(M*B)*(p*p'):=Nat.mul_le_mul_right _ Av
     _=M*B*p*(2*p'):=by simp only [Nat.mul_assoc,Nat.mul_left_comm,Nat.mul_comm]
     _<=M*B*p*M:=Nat.mul_le_mul_left _ xW
     _=B*(M*M*p):=by simp only [Nat.mul_assoc,Nat.mul_left_comm,Nat.mul_comm]
     _<=Y:=hY
   obtain ⟨m',e',s'⟩:=e3_ hK h1 Ak sP pos f m2 (B+M / p*B) p a' (by omega) w2 wY wX sC vE xk Al (by omega);exact ⟨m',(e4_ hok ha e1).trans e',⟨s'.len.trans l2,s'.wid,s'.low,s'.upp,s'.pos,by rw [<- l2];exact s'.zero⟩⟩
theorem Z6c {n c d K U B F:Nat} {m:oe} (hK:K<=400000000) (h1:1<=K) (Ak:2*(3*(B*B*(B*B)))+2<10^K) (qb:B+2<10^K) (sP:U+2<10^K) (hF:B<F) (hd:d<m.length) (hw:bB n m) (hB:ee d B m) (hU:eF d U m) :
  (dD n c d F m=some (m,false)/\∀ i,d<=i->i<m.length->aC m i c=0)\/∃ m',dD n c d F m=some (m',true)/\CoR n d c (2*(3*(B*B*(B*B)))) U m m':=by
 obtain ⟨f,rfl⟩:∃ f,F=f+1:=⟨F-1,by omega⟩;have hok:bH n m=true:=mH hK h1 hw hB hU (by omega) (by omega);cases ha:an c d m (m.length-d) with
 | none=>exact .inl ⟨by rw [iu,if_pos hok,ha],fun i h2 h3=>jm ha i h2 (by omega)⟩
 | some a =>
  right;obtain ⟨b1,b2,b3,b4⟩:=gh ha;have pT:a<m.length:=by omega
  obtain ⟨p,hp⟩:∃ p,p=(aC m a c).natAbs:=⟨_,rfl⟩;have hM:jI d c B m:=fun i h2 h3=>(hB i h2 h3).getD c;have hp1:1<=p:=by omega
  have CK:p<=B:=by rw [hp];exact hM a b1 pT
  have hQ:∀ i,d<=i->i<m.length->(aN (aC m i c) (aC m a c)).natAbs<=(2*B) / p:=by
   intro i h2 h3;rw [Nat.le_div_iff_mul_le (by omega),hp];have h5:=(iP (aC m i c) (aC m a c) b3).1;have h6:=hM i h2 h3;omega
  obtain ⟨m2,rest,e1,l2,w2,wY,wX,p2,r2,c2,z2,t2⟩:=K2_ hK h1 hd hw hB hU hM ha qb hQ;have Av:(B+(2*B) / p*B)*p<=3*(B*B):=by
   rw [Nat.add_mul];have h5:B*p<=B*B:=Nat.mul_le_mul_left _ CK;have h6:(2*B) / p*B*p<=2*B*B:=by
    rw [Nat.mul_right_comm];exact Nat.mul_le_mul_right _ (Nat.div_mul_le_self _ p)
   have h7:2*B*B=2*(B*B):=Nat.mul_assoc _ _ _;omega
  have Lo:B*B<=B*B*(B*B):=Nat.le_mul_of_pos_right _ (Nat.mul_pos (by omega) (by omega));cases rest with
  | false =>
   have Au:B+(2*B) / p*B<=2*(3*(B*B*(B*B))):=by
    have:B+(2*B) / p*B<=(B+(2*B) / p*B)*p:=Nat.le_mul_of_pos_right _ (by omega);omega
   exact t7_ hK h1 hd hok ha e1 l2 w2 (fun i h2 h3=>(wY i h2 h3).mono Au) wX (by rw [p2];exact b3) (z2 rfl) (by omega) sP
  | true =>
   obtain ⟨i,i1,i2,i3⟩:=t2 rfl;obtain ⟨k,k1,k2,k3⟩:=c2 i i1 i2;obtain ⟨a',xk⟩:∃ a',an c d m2 (m2.length-d)=some a':=by
    cases hb:an c d m2 (m2.length-d) with
    | none=>exact absurd (jm hb i (by omega) (by omega)) i3
    | some a'=>exact ⟨a',rfl⟩
   obtain ⟨q1,q2,q3,q4⟩:=gh xk;obtain ⟨p',rZ⟩:∃ p',p'=(aC m2 a' c).natAbs:=⟨_,rfl⟩;have AK:p'<=(aC m2 i c).natAbs:=(by rw [rZ];exact q4 i (by omega) (by omega) i3);have hlt:(aC m2 i c).natAbs<p:=(by rw [k3,hp];exact (iP _ _ b3).2);have sC:jI d c p m2:=by
    intro j j1 j2;by_cases hj:j=d;·rw [hj,p2,hp];exact oK _
    ·obtain ⟨k',wa,wZ,sS⟩:=c2 j (by omega) (by omega);rw [sS,hp];exact Nat.le_of_lt (iP _ _ b3).2
   have vE:lP d c (decide (0<aC m a c)) m2:=by
    intro j j1 j2;have xU:0<aC m a c->0<=aC m2 j c:=by
     intro hpos;by_cases hj:j=d;·rw [hj,p2];omega
     ·obtain ⟨k',wa,wZ,sS⟩:=c2 j (by omega) (by omega);rw [sS];exact (jv _ _ hpos).1
    have FH:aC m a c<0->aC m2 j c<=0:=by
     intro hneg;by_cases hj:j=d;·rw [hj,p2];omega
     ·obtain ⟨k',wa,wZ,sS⟩:=c2 j (by omega) (by omega);rw [sS];exact (lz _ _ hneg).2
    by_cases hpos:0<aC m a c;·simp only [hpos,decide_true,if_true];exact xU hpos
    ·simp only [hpos,decide_false];exact FH (by omega)
   have Al:(B+(2*B) / p*B)*(p*p*(aC m2 a' c).natAbs)<=3*(B*B*(B*B)):=by
    rw [<- rZ]
    calc (B+(2*B) / p*B)*(p*p*p')=(B+(2*B) / p*B)*p*(p*p'):=by simp only [Nat.mul_assoc]
     _<=3*(B*B)*(p*p'):=Nat.mul_le_mul_right _ Av
     _<=3*(B*B)*(B*B):=Nat.mul_le_mul_left _ (Nat.mul_le_mul CK (by omega))
     _=3*(B*B*(B*B)):=Nat.mul_assoc _ _ _
   obtain ⟨m',e',s'⟩:=e3_ hK h1 Ak sP (decide (0<aC m a c)) f m2 (B+(2*B) / p*B) p a' (by omega) w2 wY wX sC vE xk Al (by omega);exact ⟨m',(e4_ hok ha e1).trans e',⟨s'.len.trans l2,s'.wid,s'.low,s'.upp,s'.pos,by rw [<- l2];exact s'.zero⟩⟩
def gN:Nat->Nat->Nat->Nat×Nat
 | 0,b,u=>(b,u)
 | r+1,b,u=>gN r (4*b+1) (u+4*b+2)
theorem l0:∀ r b u,b<=(gN r b u).1/\u<=(gN r b u).2
 | 0,b,u=>⟨oK _,oK _⟩
 | r+1,b,u=>by
  have:=l0 r (4*b+1) (u+4*b+2);unfold gN;omega
theorem Z6Z (b:Nat):10^b*10^b*(10^b*10^b)=10^(4*b):=by
 rw [<- Nat.pow_add,<- Nat.pow_add];congr 1;omega
theorem lD {a b:Nat} (h:a<=b):10^a<=10^b:=Nat.pow_le_pow_right (by decide) h
theorem V4_ (b:Nat):10^(b+1)=10*10^b:=by rw [Nat.pow_succ,Nat.mul_comm]
theorem H6_ (b:Nat):1<=10^b:=Nat.pos_of_ne_zero (by simp)
theorem g1_ {d:Nat} {A B C:Nat} {m:oe} (hl:ee d A m) (hu:eF d B m) (hA:A<=C) (hB:B<=C) (e:Nat):eF e C m:=by
 intro i h1 h2;by_cases h:i<d;·exact (hu i h h2).mono hB
 ·exact (hl i (by omega) h2).mono hA
inductive Sp (n:Nat) (S:og->Prop):og->Prop
 | zero:Sp n S (List.replicate n 0)
 | mem {r} (h:S r):Sp n S r
 | less {r s} (k:Int) (h:Sp n S r) (h':Sp n S s):Sp n S (aW k r s)
def kK (n:Nat) (S:og->Prop):Prop:=∀ r,S r->r.length=n
theorem Sp.len {n:Nat} {S:og->Prop} (hS:kK n S) {r:og} (h:Sp n S r):r.length=n:=by
 induction h with
 | zero=>simp
 | mem h=>exact hS _ h
 | less k h h' ih ih'=>rw [eU];exact ih
theorem Sp.mono {n:Nat} {S T:og->Prop} (hS:∀ r,S r->Sp n T r) {r:og} (h:Sp n S r):Sp n T r:=by
 induction h with
 | zero=>exact .zero
 | mem h=>exact hS _ h
 | less k h h' ih ih'=>exact .less k ih ih'
theorem Sp.zeroCol {n c:Nat} {S:og->Prop} (hS:kK n S) (hz:∀ r,S r->r.getD c 0=0) {r:og} (h:Sp n S r):r.getD c 0=0:=by
 induction h with
 | zero =>
  rw [oD];by_cases hc:c<n;·rw [oB (by simpa using hc)];simp
  ·rw [oL (by simp;omega)];rfl
 | mem h=>exact hz _ h
 | less k h h' ih ih' =>
  rw [et k (by rw [h.len hS,h'.len hS]),ih,ih'];simp
theorem Q6_ (k:Int):∀ (r s:og),aW (-k) (aW k r s) s=r
 | r,[]=>by
  have h1:aW k r []=r:=by cases r <;> rfl
  rw [h1];cases r <;> rfl
 | [],_::_=>rfl
 | a::r,b::s=>by
  have e:aW (-k) (aW k (a::r) (b::s)) (b::s)=(a-k*b - -k*b)::aW (-k) (aW k r s) s:=rfl;rw [e,Q6_ k r s,Int.neg_mul];congr 1;omega
theorem q6_:∀ (r:og),aW 1 (List.replicate r.length 0) r=r.map (- ·)
 | []=>rfl
 | a::r=>by
  have e:aW 1 (List.replicate (a::r).length 0) (a::r)=(0-1*a)::aW 1 (List.replicate r.length 0) r:=rfl;rw [e,q6_ r,List.map_cons];congr 1;omega
theorem Sp.neg {n:Nat} {S:og->Prop} {r:og} (h:Sp n S r) (hl:r.length=n):Sp n S (r.map (- ·)):=by
 rw [<- q6_,hl];exact .less 1 .zero h
theorem C1_ {k:Int} {r s r':og} (h:eV k r s=some r'):r'=aW k r s:=by
 unfold eV at h
 split at h
 ·rename_i h0;rw [h0,iy];exact (oM h).symm
 ·split at h
  ·exact (oM h).symm
  ·cases h
def aK (d:Nat) (m:oe):og->Prop:=fun r=>∃ i,d<=i/\i<m.length/\aD m i=r
def bU (n:Nat) (S T:og->Prop):Prop:=(∀ r,S r->Sp n T r)/\(∀ r,T r->Sp n S r)
theorem bU.refl (n:Nat) (S:og->Prop):bU n S S:=⟨fun _ h=>.mem h,fun _ h=>.mem h⟩
theorem bU.trans {n:Nat} {S T V:og->Prop} (h:bU n S T) (k:bU n T V):bU n S V:=⟨fun r hr=>(h.1 r hr).mono k.1,fun r hr=>(k.2 r hr).mono h.2⟩
theorem bU.iff {n:Nat} {S T:og->Prop} (h:bU n S T) (r:og):Sp n S r↔Sp n T r:=⟨fun hr=>hr.mono h.1,fun hr=>hr.mono h.2⟩
theorem c8 {n d:Nat} {m:oe} (hw:bB n m):kK n (aK d m):=by rintro r ⟨i,-,hi,rfl⟩;exact hw i hi
theorem bA {d i:Nat} {m:oe} (h1:d<=i) (h2:i<m.length):aK d m (aD m i):=⟨i,h1,h2,rfl⟩
theorem Z3o {n d a:Nat} {m:oe} (hd:d<m.length) (ha:a<m.length) (vz:d<=a):bU n (aK d m) (aK d (a8 m d a)):=by
 have hr:=mP hd ha;have hl:=jc m d a;constructor
 ·rintro r ⟨i,h1,h2,rfl⟩;refine .mem ?_;by_cases e1:i=a
  ·refine ⟨d,oK _,by omega,?_⟩;rw [hr,e1];by_cases e2:d=a;·rw [if_pos e2,e2]
   ·rw [if_neg e2,if_pos rfl]
  ·by_cases e2:i=d;·exact ⟨a,vz,by omega,by rw [hr,if_pos rfl,e2]⟩
   ·exact ⟨i,h1,by omega,by rw [hr,if_neg e1,if_neg e2]⟩
 ·rintro r ⟨i,h1,h2,rfl⟩;refine .mem ?_;rw [hr];by_cases e1:i=a;·rw [if_pos e1];exact bA (oK _) hd
  ·rw [if_neg e1];by_cases e2:i=d;·rw [if_pos e2];exact bA vz ha
   ·rw [if_neg e2];exact bA h1 (by omega)
theorem z7_ {c d:Nat} {m:oe}:∀ {k m' rest},cB c d m k=some (m',rest)->d+1+k<=m.length->∀ i,d<i->i<d+1+k->∃ q,aD m' i=aW q (aD m i) (aD m d)
 | 0,m',rest,h,hk,i,h1,h2=>by omega
 | k+1,m',rest,h,hk,i,h1,h2=>by
  obtain ⟨m1,r1,r,e1,e2,e3,e4⟩:=nJ h;obtain ⟨l1,l2,l3⟩:=jt e1 (by omega);simp only [Prod.mk.injEq] at e4;obtain ⟨rfl,-⟩:=e4;rw [fe (by omega)];by_cases he:i=d+1+k;·rw [if_pos he,C1_ e3,l2 d (.inl (oK _)),l2 (d+1+k) (.inr (oK _)),he];exact ⟨_,rfl⟩
  ·rw [if_neg he];exact z7_ e1 (by omega) i h1 (by omega)
theorem Z5a {c d:Nat} {m:oe}:∀ {k m'},cR c d m k=some m'->k<=d->d<m.length->∀ i,i<k->∃ q,aD m' i=aW q (aD m i) (aD m d)
 | 0,m',h,hk,hd,i,h1=>by omega
 | k+1,m',h,hk,hd,i,h1=>by
  obtain ⟨m1,r,e1,e2,e3,rfl⟩:=mY h;obtain ⟨l1,l2,l3⟩:=n_ e1 (by omega) hd;rw [fe (by omega)];by_cases he:i=k;·rw [if_pos he,C1_ e3,l2 d (by omega),l2 k (oK _),he];exact ⟨_,rfl⟩
  ·rw [if_neg he];exact Z5a e1 (by omega) hd i (by omega)
theorem Z1S {n c d k:Nat} {m m':oe} {rest:Bool} (h:cB c d m k=some (m',rest)) (hk:d+1+k<=m.length):bU n (aK d m) (aK d m'):=by
 obtain ⟨l1,l2,l3⟩:=jt h hk;have hd:aD m' d=aD m d:=l2 d (.inl (oK _));constructor
 ·rintro r ⟨i,h1,h2,rfl⟩;by_cases he:d<i/\i<d+1+k
  ·obtain ⟨q,hq⟩:=z7_ h hk i he.1 he.2;rw [<- Q6_ q (aD m i) (aD m d),<- hq,<- hd];exact .less _ (.mem (bA h1 (by omega))) (.mem (bA (oK _) (by omega)))
  ·rw [<- l2 i (by omega)];exact .mem (bA h1 (by omega))
 ·rintro r ⟨i,h1,h2,rfl⟩;by_cases he:d<i/\i<d+1+k
  ·obtain ⟨q,hq⟩:=z7_ h hk i he.1 he.2;rw [hq];exact .less _ (.mem (bA h1 (by omega))) (.mem (bA (oK _) (by omega)))
  ·rw [l2 i (by omega)];exact .mem (bA h1 (by omega))
structure SwK (n d:Nat) (m m':oe):Prop where
 len:m'.length=m.length
 wid:bB n m'
 sp:bU n (aK d m) (aK d m')
 ahead:∀ i,i<d->∃ q,aD m' i=aW q (aD m i) (aD m' d)
theorem n9_ {n c d:Nat}:∀ {F:Nat} {m m':oe} {b:Bool},dI n c d F m=some (m',b)->d<m.length->bB n m->SwK n d m m'
 | 0,m,m',b,h,hd,hw=>by cases h
 | f+1,m,m',b,h,hd,hw=>by
  rw [dI] at h;by_cases hok:bH n m=true
  ·rw [if_pos hok] at h;cases ha:an c d m (m.length-d) with
   | none =>
    rw [ha] at h;simp only [Option.some.injEq,Prod.mk.injEq] at h;obtain ⟨rfl,-⟩:=h;exact ⟨rfl,hw,bU.refl _ _,fun i _=>⟨0,(iy _ _).symm⟩⟩
   | some a =>
    rw [ha] at h;simp only at h;obtain ⟨b1,b2,b3,b4⟩:=gh ha;have pT:a<m.length:=(by omega);have hsl:=jc m d a;have ya:bB n (a8 m d a):=by
     intro i hi;rw [mP hd pT]
     split
     ·exact hw d hd
     ·split
      ·exact hw a pT
      ·exact hw i (by omega)
    cases pP:cB c d (a8 m d a) (m.length-(d+1)) with
    | none=>rw [pP] at h;cases h
    | some y =>
     obtain ⟨m2,rest⟩:=y;rw [pP] at h;obtain ⟨l1,l2,l3⟩:=jt pP (by omega);have qU:bB n m2:=fun i hi=>by rw [l3 i];exact ya i (by omega)
     have hsp:bU n (aK d m) (aK d m2):=(Z3o hd pT b1).trans (Z1S pP (by omega));have Cy:∀ i,i<d->aD m2 i=aD m i:=fun i hi=>by
      rw [l2 i (.inl (by omega)),mP hd pT,if_neg (by omega),if_neg (by omega)]
     cases rest with
     | true =>
      simp only at h;have s:=n9_ h (by omega) qU;refine ⟨by rw [s.len,l1,hsl],s.wid,hsp.trans s.sp,fun i hi=>?_⟩;obtain ⟨q,hq⟩:=s.ahead i hi;rw [Cy i hi] at hq;exact ⟨q,hq⟩
     | false =>
      simp only at h;by_cases qi:bH n m2=true
      ·rw [if_pos qi] at h;obtain ⟨m3,vR⟩:=oc ((if aC m2 d c<0 then m2.set d ((aD m2 d).map (- ·)) else m2));rw [<- vR] at h;have hd2:d<m2.length:=(by omega);have Mj:m3.length=m2.length:=by rw [vR];split <;> simp
       have r3:∀ i,i≠d->aD m3 i=aD m2 i:=by
        intro i hi;rw [vR];split;·rw [fe hd2,if_neg hi]
        ·rfl
       have d3:aD m3 d=aD m2 d\/aD m3 d=(aD m2 d).map (- ·):=by
        rw [vR];split;·rw [fe hd2,if_pos rfl];exact .inr rfl
        ·exact .inl rfl
       have D1:∀ r:og,(r.map (- ·)).map (- ·)=r:=fun r=>by
        rw [List.map_map];have:((fun x:Int=>-x) ∘ fun x:Int=>-x)=id:=(by funext x;simp);rw [this,List.map_id]
       have Jx:bU n (aK d m2) (aK d m3):=by
        constructor
        ·rintro r ⟨i,h1,h2,rfl⟩;by_cases he:i=d
         ·rw [he];rcases d3 with e | e;·rw [<- e];exact .mem (bA (oK _) (by omega))
          ·rw [<- D1 (aD m2 d),<- e];refine (Sp.mem (bA (oK _) (by omega))).neg ?_;rw [e,List.length_map];exact qU d hd2
         ·rw [<- r3 i he];exact .mem (bA h1 (by omega))
        ·rintro r ⟨i,h1,h2,rfl⟩;by_cases he:i=d
         ·rw [he];rcases d3 with e | e;·rw [e];exact .mem (bA (oK _) hd2)
          ·rw [e];exact (Sp.mem (bA (oK _) hd2)).neg (qU d hd2)
         ·rw [r3 i he];exact .mem (bA h1 (by omega))
       have hw3:bB n m3:=by
        intro i hi;by_cases he:i=d
        ·rw [he];rcases d3 with e | e
         ·rw [e];exact qU d hd2
         ·rw [e,List.length_map];exact qU d hd2
        ·rw [r3 i he];exact qU i (by omega)
       cases hu:cR c d m3 d with
       | none=>rw [hu] at h;cases h
       | some m4 =>
        rw [hu] at h;simp only [Option.some.injEq,Prod.mk.injEq] at h;obtain ⟨rfl,-⟩:=h;obtain ⟨u1,u2,u3⟩:=n_ hu (oK _) (by omega);refine ⟨by omega,fun i hi=>by rw [u3 i];exact hw3 i (by omega),(hsp.trans Jx).trans ?_,fun i hi=>?_⟩
        ·constructor
         ·rintro r ⟨i,h1,h2,rfl⟩;rw [<- u2 i h1];exact .mem (bA h1 (by omega))
         ·rintro r ⟨i,h1,h2,rfl⟩;rw [u2 i h1];exact .mem (bA h1 (by omega))
        ·obtain ⟨q,hq⟩:=Z5a hu (oK _) (by omega) i hi;refine ⟨q,?_⟩;rw [hq,u2 d (oK _),r3 i (by omega),Cy i hi]
      ·rw [if_neg qi] at h;cases h
  ·rw [if_neg hok] at h;cases h
structure HP (m:oe) (d c:Nat) (ps:Nat->Nat):Prop where
 lt:∀ i,i<d->ps i<c
 mono:∀ i j,i<j->j<d->ps i<ps j
 zero:∀ i,i<d->∀ c',c'<ps i->aC m i c'=0
 pos:∀ i,i<d->0<aC m i (ps i)
 red:∀ i j,i<j->j<d->0<=aC m i (ps j)/\aC m i (ps j)<aC m j (ps j)
 rest:∀ i,d<=i->i<m.length->∀ c',c'<c->aC m i c'=0
theorem HP.step {n c d C U:Nat} {m m':oe} {ps:Nat->Nat} (h:HP m d c ps) (hd:d<m.length) (hw:bB n m) (s:mg n d c C U m m') (k:SwK n d m m'):HP m' (d+1) (c+1) (fun i=>if i<d then ps i else c):=by
 have hz:∀ i,d<=i->i<m'.length->∀ c',c'<c->aC m' i c'=0:=by
  intro i h1 h2 c' hc;have hi:Sp n (aK d m) (aD m' i):=k.sp.2 _ (bA h1 h2);exact hi.zeroCol (c8 hw) (by rintro r ⟨j,j1,j2,rfl⟩;exact h.rest j j1 j2 c' hc)
 have pQ:∀ i,i<d->∀ c',c'<c->aC m' i c'=aC m i c':=by
  intro i hi c' hc;obtain ⟨q,hq⟩:=k.ahead i hi;have h0:=hz d (oK _) (by rw [s.len];exact hd) c' hc;show (aD m' i).getD c' 0=_;rw [hq,et q (by rw [s.wid d (by rw [s.len];exact hd),hw i (by omega)])];have h1:(aD m' d).getD c' 0=0:=h0;rw [h1];simp;rfl
 refine ⟨fun i hi=>?_,fun i j pY hj=>?_,fun i hi c' hc=>?_,fun i hi=>?_,fun i j pY hj=>?_,fun i h1 h2 c' hc=>?_⟩
 ·split
  ·rename_i qj;have:=h.lt i qj;omega
  ·omega
 ·rw [if_pos (show i<d by omega)]
  split
  ·rename_i qj;exact h.mono i j pY qj
  ·exact h.lt i (by omega)
 ·split at hc
  ·rename_i qj;rw [pQ i qj c' (by have:=h.lt i qj;omega)];exact h.zero i qj c' hc
  ·obtain rfl:i=d:=(by omega);exact hz i (oK _) (by rw [s.len];exact hd) c' hc
 ·split
  ·rename_i qj;rw [pQ i qj _ (h.lt i qj)];exact h.pos i qj
  ·obtain rfl:i=d:=(by omega);exact s.pos
 ·split
  ·rename_i qj;rw [pQ i (by omega) _ (h.lt j qj),pQ j qj _ (h.lt j qj)];exact h.red i j pY qj
  ·obtain rfl:j=d:=(by omega);exact s.red i pY
 ·by_cases qX:c'=c;·rw [qX];exact s.zero i (by omega) (by rw [<- s.len];exact h2)
  ·exact hz i (by omega) h2 c' (by omega)
theorem Z6x {n d:Nat} {m m':oe} (k:SwK n d m m') (hd:d<m.length):bU n (aK 0 m) (aK 0 m'):=by
 have hdm:∀ {x:oe} {r},aK d x r->aK 0 x r:=fun ⟨i,h1,h2,h3⟩=>⟨i,by omega,h2,h3⟩
 constructor
 ·rintro r ⟨i,-,h2,rfl⟩;by_cases hi:i<d
  ·obtain ⟨q,hq⟩:=k.ahead i hi;rw [<- Q6_ q (aD m i) (aD m' d),<- hq];exact .less _ (.mem (bA (by omega) (by rw [k.len];exact h2))) (.mem (bA (by omega) (by rw [k.len];exact hd)))
  ·exact (k.sp.1 _ (bA (by omega) h2)).mono fun r hr=>.mem (hdm hr)
 ·rintro r ⟨i,-,h2,rfl⟩;by_cases hi:i<d
  ·obtain ⟨q,hq⟩:=k.ahead i hi;rw [hq];refine .less _ (.mem (bA (by omega) (by omega))) ?_;exact (k.sp.2 _ (bA (oK _) (by rw [k.len];exact hd))).mono fun r hr=>.mem (hdm hr)
  ·exact (k.sp.2 _ (bA (by omega) h2)).mono fun r hr=>.mem (hdm hr)
theorem L2_ {n K F:Nat} (hK:K<=400000000) :
  ∀ (k c d r b u:Nat) (m:oe) (ps:Nat->Nat),d<=m.length->bB n m->ee d (10^b) m->eF d (10^u) m->HP m d c ps->(m.length-d<=r\/k<=r)->(gN r b u).1+1<=K->(gN r b u).2+1<=K->10^(gN r b u).1<F ->
   ∃ m' d' ps',b9 n F k c d m=some (m',d')/\m'.length=m.length/\d'<=m'.length/\bB n m'/\eF d' (10^(gN r b u).2) m'/\HP m' d' (c+k) ps'/\bU n (aK 0 m) (aK 0 m')
 | 0,c,d,r,b,u,m,ps,hd,hw,hl,hu,hp,hr,h1,h2,hF=>⟨m,d,ps,rfl,rfl,hd,hw,fun i a1 a2=>(hu i a1 a2).mono (lD (l0 r b u).2),hp,bU.refl _ _⟩
 | k+1,c,d,r,b,u,m,ps,hd,hw,hl,hu,hp,hr,h1,h2,hF=>by
  have hg:=l0 r b u;by_cases hlt:d<m.length
  ·obtain ⟨r,rfl⟩:∃ r',r=r'+1:=⟨r-1,by omega⟩;have hg1:=l0 r (4*b+1) (u+4*b+2);have e1:gN (r+1) b u=gN r (4*b+1) (u+4*b+2):=rfl;rw [e1] at hg h1 h2 hF;have p4:=H6_ (4*b);have pb:=H6_ b;have pu:=H6_ u;have hY:2*(3*(10^b*10^b*(10^b*10^b)))+2<10^K:=by
    rw [Z6Z];have e2:=V4_ (4*b);have e3:10^(4*b+1)<=10^K:=lD (by omega);omega
   have qb:10^b+2<10^K:=by
    have e2:=V4_ b;have e3:10^(b+1)<=10^K:=lD (by omega);omega
   have sP:10^u+2<10^K:=by
    have e2:=V4_ u;have e3:10^(u+1)<=10^K:=lD (by omega);omega
   have Li:10^b<F:=Nat.lt_of_le_of_lt (lD hg.1) hF;have hC:2*(3*(10^b*10^b*(10^b*10^b)))<=10^(4*b+1):=by
    rw [Z6Z,V4_];omega
   have Bf:10^(4*b+1)<=10^(u+4*b+2):=lD (by omega);have EB:10^u+(10^u+1)*(2*(3*(10^b*10^b*(10^b*10^b))))<=10^(u+4*b+2):=by
    rw [Z6Z];have e2:10^(u+4*b+2)=100*(10^u*10^(4*b)):=(by rw [Nat.pow_succ,Nat.pow_succ,Nat.pow_add];omega);have e3:10^u<=10^u*10^(4*b):=Nat.le_mul_of_pos_right _ (by omega);have e4:10^(4*b)<=10^u*10^(4*b):=Nat.le_mul_of_pos_left _ (by omega);have e5:(10^u+1)*(2*(3*10^(4*b)))=6*(10^u*10^(4*b))+6*10^(4*b):=by
     rw [Nat.add_mul,Nat.one_mul,Nat.mul_left_comm,Nat.mul_left_comm _ 3];omega
    rw [e2,e5];omega
   rcases Z4K (n:=n) (c:=c) (F:=F) hK (by omega) hY qb sP Li hlt hw hl hu with ⟨hs,hz⟩ | ⟨m',hs,s⟩
   ·have vn:m.length-d<=r+1\/k<=r+1:=by omega
    have rZ:HP m d (c+1) ps:=⟨fun i hi=>by have:=hp.lt i hi;omega,hp.mono,hp.zero,hp.pos,hp.red,fun i a1 a2 c' hc=>by
     by_cases qX:c'=c;·rw [qX];exact hz i a1 a2
     ·exact hp.rest i a1 a2 c' (by omega)⟩
    obtain ⟨m',d',ps',q1,q2,q3,q4,q5,q6,q7⟩:=L2_ hK k (c+1) d (r+1) b u m ps hd hw hl hu rZ vn (by rw [e1];exact h1) (by rw [e1];exact h2) (by rw [e1];exact hF);refine ⟨m',d',ps',?_,q2,q3,q4,q5,by rw [Nat.add_right_comm] at q6;exact q6,q7⟩;rw [b9,if_pos hlt,hs];exact q1
   ·have hk:=n9_ hs hlt hw;have vq:ee (d+1) (10^(4*b+1)) m':=fun i a1 a2=>(s.low i (by omega) a2).mono hC;have AB:eF (d+1) (10^(u+4*b+2)) m':=g1_ s.low s.upp (oJ hC Bf) EB (d+1);have vn:m'.length-(d+1)<=r\/k<=r:=by have:=s.len;omega
    obtain ⟨m2,d',ps',q1,q2,q3,q4,q5,q6,q7⟩:=L2_ hK k (c+1) (d+1) r (4*b+1) (u+4*b+2) m' _ (by rw [s.len];omega) s.wid vq AB (hp.step hlt hw s hk) vn h1 h2 hF;refine ⟨m2,d',ps',?_,q2.trans s.len,q3,q4,q5,by rw [Nat.add_right_comm] at q6;exact q6,(Z6x hk hlt).trans q7⟩;rw [b9,if_pos hlt,hs];exact q1
  ·refine ⟨m,d,ps,?_,rfl,hd,hw,fun i a1 a2=>(hu i a1 a2).mono (lD hg.2),⟨fun i hi=>by have:=hp.lt i hi;omega,hp.mono,hp.zero,hp.pos,hp.red,fun i a1 a2=>by omega⟩,bU.refl _ _⟩;rw [b9,if_neg hlt]
def bP (n:Nat) (R:oe) (ps:Nat->Nat):Prop:=bB n R/\HP R R.length n ps
theorem jb {m:oe} {d i:Nat} (h:i<d):aD (m.take d) i=aD m i:=by
 unfold aD;rw [oD,oD,List.getElem?_take,if_pos h]
theorem T6_ {m:oe} {d i c:Nat} (h:i<d):aC (m.take d) i c=aC m i c:=by unfold aC;rw [jb h]
theorem v1_ {n:Nat} {r:og} (hl:r.length=n) (hz:∀ c,c<n->r.getD c 0=0):r=List.replicate n 0:=by
 apply List.ext_getElem (by simpa using hl);intro i h1 h2;have:=hz i (by omega);rw [oD,oB h1] at this;simpa using this
theorem y4_ (n r b:Nat) (m:oe) (hw:∀ x∈m,x.length=n) (hb:∀ x∈m,bJ (10^b) x) (hr:m.length<=r\/n<=r) (h1:(gN r b 0).1+1<=400000000) (h2:(gN r b 0).2+1<=400000000) :
  ∃ F R ps,dx n F n m=some R/\R.length<=m.length/\bP n R ps/\(∀ x∈R,bJ (10^(gN r b 0).2) x)/\bU n (aK 0 m) (aK 0 R):=by
 have rI:∀ (m':oe) i,i<m'.length->aD m' i∈m':=fun m' i hi=>oE (eE hi);have ER:bB n m:=fun i hi=>hw _ (rI m i hi);obtain ⟨m',d',ps,q1,q2,q3,q4,q5,q6,q7⟩:=L2_ (n:=n) (F:=10^(gN r b 0).1+1) (oK 400000000) n 0 0 r b 0 m (fun _=>0) (by omega) ER (fun i _ hi=>hb _ (rI m i hi)) (fun i hi _=>by omega)
  ⟨fun i hi=>by omega,fun i j _ hj=>by omega,fun i hi=>by omega,fun i hi=>by omega,fun i j _ hj=>by omega,fun i _ _ c' hc=>by omega⟩ (by omega) h1 h2 (Nat.lt_succ_self _)
 rw [Nat.zero_add] at q6;have hlen:(m'.take d').length=d':=by rw [oG];omega
 have hW:bB n (m'.take d'):=fun i hi=>by rw [hlen] at hi;rw [jb hi];exact q4 i (by omega)
 refine ⟨10^(gN r b 0).1+1,m'.take d',ps,by unfold dx;rw [q1],by rw [hlen,<- q2];exact q3,⟨hW,?_⟩,fun x hx=>?_,q7.trans ?_⟩
 ·rw [hlen]
  exact ⟨q6.lt,q6.mono,fun i hi c' hc=>by rw [T6_ hi];exact q6.zero i hi c' hc,fun i hi=>by rw [T6_ hi];exact q6.pos i hi,fun i j pY hj=>by
   rw [T6_ (show i<d' by omega),T6_ hj];exact q6.red i j pY hj,fun i a1 a2=>by rw [hlen] at a2;omega⟩
 ·obtain ⟨i,hi⟩:=List.getElem?_of_mem hx;have hil:=(oC.1 hi).1;rw [hlen] at hil;rw [<- d_ hi,jb hil];exact q5 i hil (by omega)
 ·constructor
  ·rintro x ⟨i,-,h2,rfl⟩;by_cases hi:i<d';·rw [<- jb (m:=m') hi];exact .mem (bA (by omega) (by omega))
   ·rw [v1_ (q4 i h2) (fun c hc=>q6.rest i (by omega) h2 c hc)];exact .zero
  ·rintro x ⟨i,-,h2,rfl⟩;rw [hlen] at h2;rw [jb h2];exact .mem (bA (by omega) (by omega))
end Go.Proofs.YtjlkkofmojgipaaGreatDoor
