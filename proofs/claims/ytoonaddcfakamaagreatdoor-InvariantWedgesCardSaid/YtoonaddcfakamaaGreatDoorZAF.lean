import Derived.Test.YtoonaddcfakamaaGreatDoorZAA
import Derived.Test.YtoonaddcfakamaaGreatDoorZAE
import Derived.Test.YtoonaddcfakamaaGreatDoorZAB
import Derived.Test.YtoonaddcfakamaaGreatDoorZAD
import Derived.Lib.SliceRun
import Derived.WalkSpells
import Derived.Laws.AppendOwnNone
set_option linter.unusedVariables false
set_option linter.unusedSimpArgs false
set_option maxRecDepth 1000000
set_option maxHeartbeats 4000000
namespace Go.Proofs.YtoonaddcfakamaaGreatDoor
open Go.RowKit Go.Proofs.Tryz
def bU (n:Int):Bool:=decide ((aE n.natAbs).size<=1000000000)
def fb (n:Int):Bool:=decide ((aE n.natAbs).size<=400000000)
theorem m_ (n:Int):bU n=true↔(aE n.natAbs).size<=1000000000:=decide_eq_true_iff
theorem Z0e (n:Int):fb n=true↔(aE n.natAbs).size<=400000000:=decide_eq_true_iff
def aU (k:Int):pN->List Int->List Int
 | r,[]=>r
 | [],_::_=>[]
 | a::r,b::s=>(a-k*b)::aU k r s
theorem eX (k:Int):∀ r s:pN,(aU k r s).length=r.length
 | [],[]=>rfl
 | a::r,[]=>rfl
 | [],_::_=>rfl
 | a::r,b::s=>by simp [aU,eX k r s]
theorem oC (k:Int):∀ (r s:pN) (j:Nat) (a b:Int),r[j]?=some a->s[j]?=some b->(aU k r s)[j]?=some (a-k*b)
 | [],_,j,a,b,h,_=>by simp at h
 | _::_,[],j,a,b,_,h=>by simp at h
 | x::r,y::s,0,a,b,h,h'=>by simp at h h';subst h;subst h';rfl
 | x::r,y::s,j+1,a,b,h,h'=>by
  simp only [o9] at h h';exact oC k r s j a b h h'
def eS (k:Int) (r s:pN):Option (pN) :=
 if k=0 then some r
 else if s.length=r.length/\(fb k && s.all fb && r.all bU)=true then some (aU k r s) else none
def aD (m:pM) (i:Nat):List Int:=m.getD i []
def aC (m:pM) (i c:Nat):Int:=(aD m i).getD c 0
def ao (c d:Nat) (m:pM):Nat->Option Nat
 | 0=>none
 | k+1=>match ao c d m k with
  | none=>if aC m (d+k) c=0 then none else some (d+k)
  | some a=>if aC m (d+k) c≠0/\(aC m (d+k) c).natAbs<(aC m a c).natAbs then some (d+k) else some a
def a8 {α:Type} (l:List α) (i j:Nat):List α:=match l[i]?,l[j]? with
 | some a,some b=>(l.set i b).set j a
 | _,_=>l
def cH (c d:Nat) (m:pM):Nat->Option (pM×Bool)
 | 0=>some (m,false)
 | j+1=>match cH c d m j with
  | none=>none
  | some (m',rest) =>
   if aC m' d c=0 then none
   else match eS (aL (aC m' (d+1+j) c) (aC m' d c)) (aD m' (d+1+j)) (aD m' d) with
    | none=>none
    | some r=>some (m'.set (d+1+j) r,rest || decide (bF (aC m' (d+1+j) c) (aC m' d c)≠0))
def dC (c d:Nat) (m:pM):Nat->Option (pM)
 | 0=>some m
 | j+1=>match dC c d m j with
  | none=>none
  | some m' =>
   if aC m' d c=0 then none
   else match eS (aL (aC m' j c) (aC m' d c)) (aD m' j) (aD m' d) with
    | none=>none
    | some r=>some (m'.set j r)
def bH (n:Nat) (m:pM):Bool:=m.all fun r=>decide (r.length=n) && r.all bU
def db (n c d:Nat):Nat->pM->Option (pM×Bool)
 | 0,_=>none
 | f+1,m =>
  if bH n m then
   match ao c d m (m.length-d) with
   | none=>some (m,false)
   | some a=>match cH c d (a8 m d a) (m.length-(d+1)) with
    | none=>none
    | some (m2,true)=>db n c d f m2
    | some (m2,false) =>
     if bH n m2 then
      match dC c d (if aC m2 d c<0 then m2.set d ((aD m2 d).map (- ·)) else m2) d with
      | none=>none
      | some m4=>some (m4,true)
     else none
  else none
def cB (n F:Nat):Nat->Nat->Nat->pM->Option (pM×Nat)
 | 0,_,d,m=>some (m,d)
 | k+1,c,d,m =>
  if d<m.length then
   match db n c d F m with
   | none=>none
   | some (m',p)=>cB n F k (c+1) (if p then d+1 else d) m'
  else some (m,d)
def dj (n F cols:Nat) (m:pM):Option (pM) :=
 match cB n F cols 0 0 m with
 | none=>none
 | some (m',d)=>some (m'.take d)
def ck (r:pN):Int:=match r.findIdx? (· != 0) with | some i=>(i:Int) | none=>-1
def dp (k:Nat) (m:pM):pM:=(m.filter fun r=>decide ((k:Int)<=ck r)).map (·.drop k)
def bK (cols:Nat) (m:pM):pM:=(List.range cols).map fun c=>m.map (fun r=>r.getD c 0)++(List.replicate cols (0:Int)).set c 1
structure aW (w:World) (g o:Nat) (xs:pN):Prop where
 lt:g<w.heap.size
 cell:∀ (j:Nat) x,xs[j]?=some x->w.cell? ⟨g,o+j,none⟩=some (.string (aB x))
 free:∀ j,w.frozen? ⟨g,j,none⟩=false
theorem Z9_ {w w':World} {g:Nat} (h:w'.heap[g]?=w.heap[g]?) (j:Nat):w'.cell? ⟨g,j,none⟩=w.cell? ⟨g,j,none⟩:=by
 simp [World.cell?,h]
theorem W3_ {w w':World} {g:Nat} (h:w'.heap[g]?=w.heap[g]?) (j:Nat):w'.frozen? ⟨g,j,none⟩=w.frozen? ⟨g,j,none⟩:=by
 simp [World.frozen?,h]
theorem aW.same {w w':World} {g o:Nat} {xs:pN} (h:aW w g o xs) (hs:w.heap.size<=w'.heap.size) (hg:w'.heap[g]?=w.heap[g]?):aW w' g o xs :=
 ⟨ov h.lt hs,fun j x hx=>(Z9_ hg _).trans (h.cell j x hx),fun j=>(W3_ hg j).trans (h.free j)⟩
theorem aW.ext {w w':World} {g o:Nat} {xs:pN} (h:aW w g o xs) (he:aA w w'):aW w' g o xs:=h.same he.size (he.block g h.lt)
theorem aW.grown {w w':World} {S:Nat->Prop} {g o:Nat} {xs:pN} (h:aW w g o xs) (hg:aH S w w') (hS:¬ S g):aW w' g o xs:=h.same hg.size (hg.block g h.lt hS)
theorem kf (w:World) (g i b:Nat) (v:Value) (h:b≠g):(w.setCell ⟨g,i,none⟩ v).heap[b]?=w.heap[b]?:=by
 by_cases hb:b<w.heap.size;·exact (fT w g i v).block b hb (fun e=>h (by cases e;rfl))
 ·have:(w.setCell ⟨g,i,none⟩ v).heap.size=w.heap.size:=by simp [World.setCell]
  rw [Array.getElem?_eq_none (by omega),Array.getElem?_eq_none (by omega)]
theorem oM (w:World) (a:Addr) (v:Value):(w.setCell a v).heap.size=w.heap.size:=by simp [World.setCell]
theorem Y1_ (w:World) (g i j:Nat) (v:Value):(w.setCell ⟨g,i,none⟩ v).frozen? ⟨g,j,none⟩=w.frozen? ⟨g,j,none⟩:=by
 exact World.frozen?_setCell ..
theorem aW.set {w:World} {g o:Nat} {xs:pN} (h:aW w g o xs) (k:Nat) (hk:k<xs.length) (y:Int):aW (w.setCell ⟨g,o+k,none⟩ (.string (aB y))) g o (xs.set k y):=by
 refine ⟨by rw [oM];exact h.lt,fun j x hx=>?_,fun j=>by rw [Y1_];exact h.free j⟩;rw [pH] at hx;by_cases hj:k=j
 ·subst hj;rw [if_pos rfl,if_pos hk] at hx;cases hx;exact World.cell?_setCell_same w _ _ (h.cell k xs[k] (oc hk))
 ·rw [if_neg hj] at hx;rw [World.cell?_setCell_other w _ _ _ (by intro e;simp only [Addr.mk.injEq] at e;omega)];exact h.cell j x hx
theorem aW.other {w:World} {g o:Nat} {xs:pN} (h:aW w g o xs) (b i:Nat) (v:Value) (hb:g≠b):aW (w.setCell ⟨b,i,none⟩ v) g o xs :=
 h.same (by rw [oM];exact oz _) (kf w b i g v hb)
structure bI (w:World) (g0:Nat) (tags:List (Nat×Nat×Nat)) (m:pM):Prop where
 len:tags.length=m.length
 lt:g0<w.heap.size
 free:∀ j,w.frozen? ⟨g0,j,none⟩=false
 row:∀ (i:Nat) t r,tags[i]?=some t->m[i]?=some r->w.cell? ⟨g0,i,none⟩=some (.slice (some ⟨t.1,t.2.1,none⟩) r.length t.2.2)/\r.length<=t.2.2/\t.2.2<=maxLen/\aW w t.1 t.2.1 r
 nodup:(g0::tags.map (·.1)).Nodup
def dU (g0:Nat) (tags:List (Nat×Nat×Nat)) (b:Nat):Prop:=b∈g0::tags.map (·.1)
theorem bI.same {w w':World} {g0:Nat} {tags:List (Nat×Nat×Nat)} {m:pM} (h:bI w g0 tags m) (hs:w.heap.size<=w'.heap.size) (hb:∀ b,dU g0 tags b->w'.heap[b]?=w.heap[b]?):bI w' g0 tags m:=by
 have h0:=hb g0 (List.mem_cons_self ..);refine ⟨h.len,ov h.lt hs,fun j=>(W3_ h0 j).trans (h.free j),fun i t r ht hr=>?_,h.nodup⟩;obtain ⟨h1,h2,h3,h4⟩:=h.row i t r ht hr;exact ⟨(Z9_ h0 i).trans h1,h2,h3,h4.same hs (hb t.1 (List.mem_cons_of_mem _ (List.mem_map.2 ⟨t,og ht,rfl⟩)))⟩
theorem bI.blt {w:World} {g0:Nat} {tags:List (Nat×Nat×Nat)} {m:pM} (h:bI w g0 tags m) {b:Nat} (hb:dU g0 tags b):b<w.heap.size:=by
 rcases List.mem_cons.1 hb with rfl | hb;·exact h.lt
 ·obtain ⟨t,ht,rfl⟩:=List.mem_map.1 hb;obtain ⟨i,hi⟩:=List.getElem?_of_mem ht;have hl:i<m.length:=by rw [<- h.len];exact (od.1 hi).1
  exact (h.row i t m[i] hi (oc hl)).2.2.2.lt
theorem bI.ext {w w':World} {g0:Nat} {tags:List (Nat×Nat×Nat)} {m:pM} (h:bI w g0 tags m) (he:aA w w'):bI w' g0 tags m :=
 h.same he.size fun b hb=>he.block b (h.blt hb)
theorem bI.get {w:World} {g0:Nat} {tags:List (Nat×Nat×Nat)} {m:pM} (h:bI w g0 tags m) (i:Nat) (hi:i<m.length) :
  ∃ t,tags[i]?=some t/\w.cell? ⟨g0,i,none⟩=some (.slice (some ⟨t.1,t.2.1,none⟩) (aD m i).length t.2.2)/\(aD m i).length<=t.2.2/\t.2.2<=maxLen/\aW w t.1 t.2.1 (aD m i)/\t.1≠g0:=by
 have hl:i<tags.length:=by rw [h.len];exact hi
 have e:aD m i=m[i]:=by unfold aD;rw [oe,oc hi];rfl
 have:=h.row i tags[i] m[i] (oc hl) (oc hi);refine ⟨tags[i],oc hl,?_⟩;rw [e];refine ⟨this.1,this.2.1,this.2.2.1,this.2.2.2,?_⟩;have hn:=(List.nodup_cons.1 h.nodup).1;intro e2;exact hn (List.mem_map.2 ⟨tags[i],List.getElem_mem hl,e2⟩)
theorem bI.apart {w:World} {g0:Nat} {tags:List (Nat×Nat×Nat)} {m:pM} (h:bI w g0 tags m) {i j:Nat} {s t:Nat×Nat×Nat} (hs:tags[i]?=some s) (ht:tags[j]?=some t) (qH:i≠j):s.1≠t.1:=by
 have hn:=(List.nodup_cons.1 h.nodup).2;intro e;have h1:(tags.map (·.1))[i]?=some s.1:=by rw [oh,hs];rfl
 have h2:(tags.map (·.1))[j]?=some s.1:=by rw [oh,ht,e];rfl
 obtain ⟨l1,e1⟩:=od.1 h1;obtain ⟨l2,e2⟩:=od.1 h2;exact qH ((List.getElem_inj hn).1 (e1.trans e2.symm))
theorem bI.setRow {w w':World} {g0:Nat} {tags:List (Nat×Nat×Nat)} {m:pM} (h:bI w g0 tags m) (i:Nat) (hi:i<m.length) (t:Nat×Nat×Nat) (ht:tags[i]?=some t) (r:pN) (hr:r.length=(aD m i).length) (hg:aH (·=t.1) w w') (hR:aW w' t.1 t.2.1 r):bI w' g0 tags (m.set i r):=by
 obtain ⟨t',vj,-,-,-,-,hne⟩:=h.get i hi;obtain rfl:t'=t:=o5 (vj.symm.trans ht);have h0:=hg.block g0 h.lt (fun e=>hne e.symm);refine ⟨by rw [List.length_set];exact h.len,ov h.lt hg.size,fun j=>(W3_ h0 j).trans (h.free j),fun j s q hs hq=>?_,h.nodup⟩;rw [pH] at hq;by_cases hj:i=j
 ·subst hj;rw [if_pos rfl,if_pos hi] at hq;cases hq;obtain rfl:s=t':=o5 (hs.symm.trans ht);have e:aD m i=m[i]:=by unfold aD;rw [oe,oc hi];rfl
  obtain ⟨h1,h2,h3,h4⟩:=h.row i s m[i] hs (oc hi);rw [<- e,<- hr] at h1 h2;exact ⟨(Z9_ h0 i).trans h1,h2,h3,hR⟩
 ·rw [if_neg hj] at hq;obtain ⟨h1,h2,h3,h4⟩:=h.row j s q hs hq;exact ⟨(Z9_ h0 j).trans h1,h2,h3,h4.grown hg (h.apart hs ht (fun e=>hj e.symm))⟩
theorem eL {m:pM} {i:Nat} (hi:i<m.length):m[i]?=some (aD m i):=by
 unfold aD;rw [oe,oc hi];rfl
theorem eO {m:pM} {i:Nat} {r:pN} (h:m[i]?=some r):aD m i=r:=by
 unfold aD;rw [oe,h];rfl
theorem fs {m:pM} {i j:Nat} {r:pN} (hi:i<m.length):aD (m.set i r) j=if j=i then r else aD m j:=by
 unfold aD;rw [oe,oe,pH];by_cases h:i=j;·subst h;rw [if_pos rfl,if_pos rfl,if_pos hi];rfl
 ·rw [if_neg h,if_neg (fun e=>h e.symm)]
theorem j5 {α:Type} (l:List α) (i j:Nat):(a8 l i j).length=l.length:=by
 unfold a8;split <;> simp
theorem oW {α:Type} {l:List α} {i j:Nat} {a b:α} (hi:l[i]?=some a) (hj:l[j]?=some b):a8 l i j=(l.set i b).set j a:=by
 unfold a8;rw [hi,hj]
theorem S6_ {α:Type} (l:List α) (i j:Nat) (x:α) (h:x∈a8 l i j):x∈l:=by
 unfold a8 at h;cases hi:l[i]? with
 | none=>rw [hi] at h;exact h
 | some a =>
  cases hj:l[j]? with
  | none=>rw [hi,hj] at h;exact h
  | some b =>
   rw [hi,hj] at h;rcases List.mem_or_eq_of_mem_set h with h | h
   ·rcases List.mem_or_eq_of_mem_set h with h | h;·exact h
    ·rw [h];exact og hj
   ·rw [h];exact og hi
theorem k7_ {α β:Type} (f:α->β) (l:List α) (i j:Nat):(a8 l i j).map f=a8 (l.map f) i j:=by
 unfold a8;rw [oh,oh];cases l[i]? with
 | none=>rfl
 | some a=>cases l[j]? with
  | none=>rfl
  | some b=>simp [List.map_set]
theorem u5_ {n:Nat} {m:pM} (h:bH n m=true) (i j:Nat):bH n (a8 m i j)=true:=by
 unfold bH at h |-;rw [List.all_eq_true] at h |-;exact fun x hx=>h x (S6_ m i j x hx)
theorem er {n:Nat} {m:pM} (h:bH n m=true) (i:Nat) (hi:i<m.length):(aD m i).length=n/\(aD m i).all bU=true:=by
 unfold bH at h;have:=List.all_eq_true.1 h (aD m i) (og (eL hi));rw [Bool.and_eq_true,decide_eq_true_iff] at this;exact this
theorem lT {k:Int} {r s r':pN} (h:eS k r s=some r'):r'.length=r.length:=by
 unfold eS at h
 split at h
 ·rw [<- o5 h]
 ·split at h
  ·rw [<- o5 h];exact eX k r s
  ·cases h
theorem C9_ (c d:Nat) (m:pM) (j:Nat):cH c d m (j+1)=match cH c d m j with
  | none=>none
  | some (m',rest) =>
   if aC m' d c=0 then none
   else match eS (aL (aC m' (d+1+j) c) (aC m' d c)) (aD m' (d+1+j)) (aD m' d) with
    | none=>none
    | some r=>some (m'.set (d+1+j) r,rest || decide (bF (aC m' (d+1+j) c) (aC m' d c)≠0)):=rfl
theorem nn {c d j:Nat} {m:pM} {y:pM×Bool} (h:cH c d m (j+1)=some y) :
  ∃ m' rest r,cH c d m j=some (m',rest)/\aC m' d c≠0/\eS (aL (aC m' (d+1+j) c) (aC m' d c)) (aD m' (d+1+j)) (aD m' d)=some r/\y=(m'.set (d+1+j) r,rest || decide (bF (aC m' (d+1+j) c) (aC m' d c)≠0)):=by
 rw [C9_] at h;cases hd:cH c d m j with
 | none=>rw [hd] at h;cases h
 | some p =>
  obtain ⟨m',rest⟩:=p;rw [hd] at h;simp only at h;by_cases h0:aC m' d c=0;·rw [if_pos h0] at h;cases h
  ·rw [if_neg h0] at h;cases hl:eS (aL (aC m' (d+1+j) c) (aC m' d c)) (aD m' (d+1+j)) (aD m' d) with
   | none=>rw [hl] at h;cases h
   | some r =>
    rw [hl] at h;exact ⟨m',rest,r,rfl,h0,hl,(o5 h).symm⟩
theorem C8_ {c d : Nat} {m : pM} {k : Nat} : ∀ {y}, cH c d m k = some y -> ∀ j, j <= k -> ∃ z, cH c d m j = some z := by
  induction k with
  | zero => intro y h j hj; obtain rfl : j = 0 := by omega
            exact ⟨y, h⟩
  | succ k ih =>
    intro y h j hj;by_cases he : j = k + 1;· subst he; exact ⟨y, h⟩
    · obtain ⟨m', rest, r, h1, -⟩ := nn h
      exact ih h1 j (by omega)
theorem kQ {c d:Nat} {m:pM} {k:Nat}:∀ {m' rest},cH c d m k=some (m',rest)->d+1+k<=m.length->m'.length=m.length/\(∀ i,i<=d\/d+1+k<=i->aD m' i=aD m i)/\(∀ i,(aD m' i).length=(aD m i).length):=by
 induction k with
 | zero =>
  intro m' rest h hk;have h:some (m,false)=some (m',rest):=h;simp only [Option.some.injEq,Prod.mk.injEq] at h;obtain ⟨rfl,-⟩:=h;exact ⟨rfl,fun _ _=>rfl,fun _=>rfl⟩
 | succ k ih =>
  intro m' rest h hk;obtain ⟨m1,r1,r,h1,h2,h3,h4⟩:=nn h;obtain ⟨l1,l2,l3⟩:=ih h1 (by omega);simp only [Prod.mk.injEq] at h4;obtain ⟨rfl,-⟩:=h4;have hi:d+1+k<m1.length:=by omega
  refine ⟨by rw [List.length_set];exact l1,fun i rD=>?_,fun i=>?_⟩;·rw [fs hi,if_neg (by omega)];exact l2 i (by omega)
  ·rw [fs hi];by_cases he:i=d+1+k;·rw [if_pos he,he,lT h3];exact l3 _
   ·rw [if_neg he];exact l3 i
theorem Z0o (c d:Nat) (m:pM) (j:Nat):dC c d m (j+1)=match dC c d m j with
  | none=>none
  | some m' =>
   if aC m' d c=0 then none
   else match eS (aL (aC m' j c) (aC m' d c)) (aD m' j) (aD m' d) with
    | none=>none
    | some r=>some (m'.set j r):=rfl
theorem nE {c d j:Nat} {m:pM} {y:pM} (h:dC c d m (j+1)=some y) :
  ∃ m' r,dC c d m j=some m'/\aC m' d c≠0/\eS (aL (aC m' j c) (aC m' d c)) (aD m' j) (aD m' d)=some r/\y=m'.set j r:=by
 rw [Z0o] at h;cases hd:dC c d m j with
 | none=>rw [hd] at h;cases h
 | some m' =>
  rw [hd] at h;simp only at h;by_cases h0:aC m' d c=0;·rw [if_pos h0] at h;cases h
  ·rw [if_neg h0] at h;cases hl:eS (aL (aC m' j c) (aC m' d c)) (aD m' j) (aD m' d) with
   | none=>rw [hl] at h;cases h
   | some r =>
    rw [hl] at h;exact ⟨m',r,rfl,h0,hl,(o5 h).symm⟩
theorem s6_ {c d : Nat} {m : pM} {k : Nat} : ∀ {y}, dC c d m k = some y -> ∀ j, j <= k -> ∃ z, dC c d m j = some z := by
  induction k with
  | zero => intro y h j hj; obtain rfl : j = 0 := by omega
            exact ⟨y, h⟩
  | succ k ih =>
    intro y h j hj;by_cases he : j = k + 1;· subst he; exact ⟨y, h⟩
    · obtain ⟨m', r, h1, -⟩ := nE h
      exact ih h1 j (by omega)
theorem oX {c d:Nat} {m:pM} {k:Nat}:∀ {m'},dC c d m k=some m'->k<=d->d<m.length->m'.length=m.length/\(∀ i,k<=i->aD m' i=aD m i)/\(∀ i,(aD m' i).length=(aD m i).length):=by
 induction k with
 | zero =>
  intro m' h hk hd;have h:some m=some m':=h;obtain rfl:=o5 h;exact ⟨rfl,fun _ _=>rfl,fun _=>rfl⟩
 | succ k ih =>
  intro m' h hk hd;obtain ⟨m1,r,h1,h2,h3,rfl⟩:=nE h;obtain ⟨l1,l2,l3⟩:=ih h1 (by omega) hd;have hi:k<m1.length:=by omega
  refine ⟨by rw [List.length_set];exact l1,fun i rD=>?_,fun i=>?_⟩;·rw [fs hi,if_neg (by omega)];exact l2 i (by omega)
  ·rw [fs hi];by_cases he:i=k;·rw [if_pos he,he,lT h3];exact l3 _
   ·rw [if_neg he];exact l3 i
theorem Z1x {α:Type} [DecidableEq α] (l:List α) (i j:Nat):(a8 l i j).Perm l:=by
 cases hi:l[i]? with
 | none=>unfold a8;rw [hi]
 | some a =>
  cases hj:l[j]? with
  | none=>unfold a8;rw [hi,hj]
  | some b =>
   rw [oW hi hj,List.perm_iff_count];intro x;have h1:=(od.1 hi);have h2:=(od.1 hj);obtain ⟨l1,e1⟩:=h1;obtain ⟨l2,e2⟩:=h2;have Bg:j<(l.set i b).length:=(by rw [List.length_set];exact l2);rw [List.count_set Bg,List.count_set l1];by_cases qH:i=j
   ·subst qH;rw [List.getElem_set_self];rw [e1] at e2;subst e2;rw [e1];have:(if a == x then 1 else 0)<=l.count x:=by
     split
     ·rename_i hx;rw [<- beq_iff_eq.1 hx];exact List.count_pos_iff.2 (og hi)
     ·exact Nat.zero_le _
    omega
   ·rw [List.getElem_set_ne qH,e1,e2];have k1:(if a == x then 1 else 0)<=l.count x:=by
     split
     ·rename_i hx;rw [<- beq_iff_eq.1 hx];exact List.count_pos_iff.2 (og hi)
     ·exact Nat.zero_le _
    have k2:(if b == x then 1 else 0)<=l.count x:=by
     split
     ·rename_i hx;rw [<- beq_iff_eq.1 hx];exact List.count_pos_iff.2 (og hj)
     ·exact Nat.zero_le _
    omega
theorem bI.swap {w:World} {g0:Nat} {tags:List (Nat×Nat×Nat)} {m:pM} (h:bI w g0 tags m) (d a:Nat) (hd:d<m.length) (ha:a<m.length) (td ta:Nat×Nat×Nat) (xH:tags[d]?=some td) (xI:tags[a]?=some ta) :
  bI ((w.setCell ⟨g0,d,none⟩ (.slice (some ⟨ta.1,ta.2.1,none⟩) (aD m a).length ta.2.2)).setCell ⟨g0,a,none⟩ (.slice (some ⟨td.1,td.2.1,none⟩) (aD m d).length td.2.2)) g0 (a8 tags d a) (a8 m d a):=by
 obtain ⟨td',Ek,c1,c2,c3,c4,c5⟩:=h.get d hd;obtain rfl:td'=td:=o5 (Ek.symm.trans xH);obtain ⟨ta',El,e1,e2,e3,e4,e5⟩:=h.get a ha;obtain rfl:ta'=ta:=o5 (El.symm.trans xI);have hmd:=eL hd;have hma:=eL ha;rw [oW xH xI,oW hmd hma];obtain ⟨w1,pt⟩:=pL ((w.setCell ⟨g0,d,none⟩ (.slice (some ⟨ta'.1,ta'.2.1,none⟩) (aD m a).length ta'.2.2)).setCell ⟨g0,a,none⟩ (.slice (some ⟨td'.1,td'.2.1,none⟩) (aD m d).length td'.2.2));have hsz:w1.heap.size=w.heap.size:=by rw [pt,oM,oM]
 have E6:∀ b,b≠g0->w1.heap[b]?=w.heap[b]?:=fun b hb=>by rw [pt,kf _ _ _ _ _ hb,kf _ _ _ _ _ hb]
 have D2:∀ j,w1.frozen? ⟨g0,j,none⟩=false:=fun j=>by rw [pt,Y1_,Y1_];exact h.free j
 have AT:w1.cell? ⟨g0,a,none⟩=some (.slice (some ⟨td'.1,td'.2.1,none⟩) (aD m d).length td'.2.2):=by
  rw [pt];by_cases wG:d=a
  ·subst wG;exact World.cell?_setCell_same _ _ _ (World.cell?_setCell_same w _ _ c1)
  ·exact World.cell?_setCell_same _ _ _ ((World.cell?_setCell_other w _ _ _ (by intro e;simp only [Addr.mk.injEq] at e;exact wG e.2.1)).trans e1)
 have vD:d≠a->w1.cell? ⟨g0,d,none⟩=some (.slice (some ⟨ta'.1,ta'.2.1,none⟩) (aD m a).length ta'.2.2):=fun wG=>by
  rw [pt,World.cell?_setCell_other _ _ _ _ (by intro e;simp only [Addr.mk.injEq] at e;exact wG e.2.1.symm)];exact World.cell?_setCell_same w _ _ c1
 have Le:∀ j,j≠d->j≠a->w1.cell? ⟨g0,j,none⟩=w.cell? ⟨g0,j,none⟩:=fun j LI LJ=>by
  rw [pt,World.cell?_setCell_other _ _ _ _ (by intro e;simp only [Addr.mk.injEq] at e;exact LJ e.2.1.symm),World.cell?_setCell_other _ _ _ _ (by intro e;simp only [Addr.mk.injEq] at e;exact LI e.2.1.symm)]
 rw [<- pt];clear pt;have hrow:∀ (t:Nat×Nat×Nat) r,t.1≠g0->aW w t.1 t.2.1 r->aW w1 t.1 t.2.1 r:=fun t r ht hr=>hr.same (by omega) (E6 t.1 ht);refine ⟨by simp only [List.length_set];exact h.len,by rw [hsz];exact h.lt,D2,fun i t r ht hr=>?_,?_⟩
 ·have hlt:tags.length=m.length:=h.len;by_cases Dy:i=a
  ·subst Dy;rw [List.getElem?_set_self (by rw [List.length_set];omega)] at ht;rw [List.getElem?_set_self (by rw [List.length_set];omega)] at hr;obtain rfl:=o5 ht;obtain rfl:=o5 hr;exact ⟨AT,c2,c3,hrow _ _ c5 c4⟩
  ·rw [List.getElem?_set_ne (fun e=>Dy e.symm)] at ht hr;by_cases hid:i=d
   ·subst hid;rw [List.getElem?_set_self (by omega)] at ht;rw [List.getElem?_set_self (by omega)] at hr;obtain rfl:=o5 ht;obtain rfl:=o5 hr;exact ⟨vD Dy,e2,e3,hrow _ _ e5 e4⟩
   ·rw [List.getElem?_set_ne (fun e=>hid e.symm)] at ht hr;obtain ⟨k1,k2,k3,k4⟩:=h.row i t r ht hr;have hne:t.1≠g0:=by
     intro e;exact (List.nodup_cons.1 h.nodup).1 (List.mem_map.2 ⟨t,og ht,e⟩)
    exact ⟨(Le i hid Dy).trans k1,k2,k3,hrow _ _ hne k4⟩
 ·have hn:=List.nodup_cons.1 h.nodup;rw [List.nodup_cons];have hsw:((tags.set d ta').set a td').map (·.1)=a8 (tags.map (·.1)) d a:=by
   rw [<- oW xH xI,k7_]
  rw [hsw];refine ⟨fun hm=>hn.1 (S6_ _ _ _ _ hm),?_⟩;have hp:(a8 (tags.map (·.1)) d a).Perm (tags.map (·.1)):=Z1x _ _ _;exact hp.nodup_iff.2 hn.2
theorem ie (x y:Int) (hy:y≠0):(aL x y).natAbs*y.natAbs<=x.natAbs+y.natAbs/\(bF x y).natAbs<y.natAbs:=by
 have e:=mW x y;have h2:(bF x y).natAbs<y.natAbs:=by
  rcases Int.lt_or_gt_of_ne hy with h | h;·have:=nt x y h;omega
  ·have:=lG x y h;omega
 refine ⟨?_,h2⟩;have h3:y*aL x y=x-bF x y:=by omega
 have h4:(y*aL x y).natAbs=y.natAbs*(aL x y).natAbs:=Int.natAbs_mul _ _;rw [Nat.mul_comm,<- h4,h3];omega
def Z48 (x y:Int):Prop:=(0<=x/\0<y)\/(x<=0/\y<0)
theorem mX (x y:Int) (h:Z48 x y):(aL x y).natAbs*y.natAbs<=x.natAbs/\(bF x y).natAbs<=x.natAbs/\Z48 (bF x y) y/\(y.natAbs<=x.natAbs->2*(bF x y).natAbs<=x.natAbs):=by
 have e:=mW x y;have h4:(y*aL x y).natAbs=y.natAbs*(aL x y).natAbs:=Int.natAbs_mul _ _;have h3:y*aL x y=x-bF x y:=by omega
 rcases h with ⟨hx,hy⟩ | ⟨hx,hy⟩
 ·have hr:=lG x y hy;have hq:0<=aL x y:=by
   rcases Int.lt_or_le (aL x y) 0 with hn | hn
   ·have:y*aL x y<=y*(-1):=Int.mul_le_mul_of_nonneg_left (by omega) (by omega);omega
   ·exact hn
  have hp:0<=y*aL x y:=Int.mul_nonneg (by omega) hq;refine ⟨by rw [Nat.mul_comm,<- h4,h3];omega,by omega,.inl ⟨hr.1,hy⟩,fun hle=>?_⟩;have vL:1<=aL x y:=by
   rcases Int.lt_or_le (aL x y) 1 with hn | hn
   ·have h0:aL x y=0:=(by omega);rw [h0,Int.mul_zero] at h3;omega
   ·exact hn
  have:y*1<=y*aL x y:=Int.mul_le_mul_of_nonneg_left vL (by omega);omega
 ·have hr:=nt x y hy;have hq:0<=aL x y:=by
   rcases Int.lt_or_le (aL x y) 0 with hn | hn
   ·have:(-y)*aL x y<=(-y)*(-1):=Int.mul_le_mul_of_nonneg_left (by omega) (by omega);have e2:(-y)*aL x y=-(y*aL x y):=Int.neg_mul _ _;omega
   ·exact hn
  have hp:0<=(-y)*aL x y:=Int.mul_nonneg (by omega) hq;have e2:(-y)*aL x y=-(y*aL x y):=Int.neg_mul _ _;refine ⟨by rw [Nat.mul_comm,<- h4,h3];omega,by omega,.inr ⟨hr.2,hy⟩,fun hle=>?_⟩;have vL:1<=aL x y:=by
   rcases Int.lt_or_le (aL x y) 1 with hn | hn
   ·have h0:aL x y=0:=(by omega);rw [h0,Int.mul_zero] at h3;omega
   ·exact hn
  have:(-y)*1<=(-y)*aL x y:=Int.mul_le_mul_of_nonneg_left vL (by omega);omega
def aT (B:Nat) (r:pN):Prop:=∀ x∈r,x.natAbs<=B
theorem aT.mono {B B':Nat} {r:pN} (h:aT B r) (hb:B<=B'):aT B' r:=fun x hx=>ow (h x hx) hb
theorem aT.getD {B:Nat} {r:pN} (h:aT B r) (c:Nat):(r.getD c 0).natAbs<=B:=by
 rw [oe];cases hc:r[c]? with
 | none=>simp
 | some x=>exact h x (og hc)
theorem aT.neg {B:Nat} {r:pN} (h:aT B r):aT B (r.map (- ·)):=by
 intro x hx;obtain ⟨y,hy,rfl⟩:=List.mem_map.1 hx;rw [Int.natAbs_neg];exact h y hy
theorem v9_ {B C:Nat} (k:Int):∀ (r s:pN),aT B r->aT C s->aT (B+k.natAbs*C) (aU k r s)
 | r,[],h,_=>by
  have:aU k r []=r:=by cases r <;> rfl
  rw [this];exact h.mono (Nat.le_add_right _ _)
 | [],_::_,_,_=>fun x hx=>by simp [aU] at hx
 | a::r,b::s,h,h'=>by
  intro x hx;unfold aU at hx;rcases List.mem_cons.1 hx with rfl | hx
  ·have h1:=h a (by simp);have h2:=h' b (by simp);have h3:(k*b).natAbs<=k.natAbs*C:=(by rw [Int.natAbs_mul];exact Nat.mul_le_mul_left _ h2);omega
  ·exact v9_ k r s (fun y hy=>h y (by simp [hy])) (fun y hy=>h' y (by simp [hy])) x hx
theorem jL:∀ (r s:pN),aU 0 r s=r
 | r,[]=>by cases r <;> rfl
 | [],_::_=>rfl
 | a::r,b::s=>by unfold aU;rw [jL r s];simp
theorem en (k:Int) {r s:pN} (hl:s.length=r.length) (c:Nat):(aU k r s).getD c 0=r.getD c 0-k*s.getD c 0:=by
 simp only [oe];by_cases hc:c<r.length;·rw [oC k r s c r[c] (s[c]'(by omega)) (oc hc) (oc _),oc hc,oc (by omega)];rfl
 ·rw [o4 (by rw [eX];omega),o4 (by omega),o4 (by omega)];simp
theorem oR {x:Int} {K:Nat} (hK:K<=1000000000) (h1:1<=K) (h:x.natAbs<10^K):bU x=true:=(m_ x).2 (ow (kZ _ K h h1) hK)
theorem Z3H {x:Int} {K:Nat} (hK:K<=400000000) (h1:1<=K) (h:x.natAbs<10^K):fb x=true:=(Z0e x).2 (ow (kZ _ K h h1) hK)
theorem a3_ {K B C:Nat} {k:Int} {r s:pN} (hK:K<=400000000) (h1:1<=K) (hl:s.length=r.length) (hr:aT B r) (hs:aT C s) (hB:B<10^K) (hC:C<10^K) (hk:k.natAbs<10^K):eS k r s=some (aU k r s):=by
 unfold eS;by_cases h0:k=0;·rw [if_pos h0,h0,jL]
 ·have hc:(fb k && s.all fb && r.all bU)=true:=by
   rw [Bool.and_eq_true,Bool.and_eq_true,List.all_eq_true,List.all_eq_true];exact ⟨⟨Z3H hK h1 hk,fun x hx=>Z3H hK h1 (Nat.lt_of_le_of_lt (hs x hx) hC)⟩,fun x hx=>oR (by omega) h1 (Nat.lt_of_le_of_lt (hr x hx) hB)⟩
  rw [if_neg h0,if_pos ⟨hl,hc⟩]
def ev (d B:Nat) (m:pM):Prop:=∀ i,d<=i->i<m.length->aT B (aD m i)
def eU (d U:Nat) (m:pM):Prop:=∀ i,i<d->i<m.length->aT U (aD m i)
def ak (n:Nat) (m:pM):Prop:=∀ i,i<m.length->(aD m i).length=n
theorem mn {n K B U d:Nat} {m:pM} (hK:K<=400000000) (h1:1<=K) (hw:ak n m) (hl:ev d B m) (hu:eU d U m) (hB:B<10^K) (hU:U<10^K):bH n m=true:=by
 unfold bH;rw [List.all_eq_true];intro r hr;obtain ⟨i,hi⟩:=List.getElem?_of_mem hr;have him:=(od.1 hi).1;have hre:=eO hi;rw [Bool.and_eq_true,decide_eq_true_iff,List.all_eq_true];refine ⟨by rw [<- hre];exact hw i him,fun x hx=>?_⟩;by_cases hd:d<=i;·exact oR (by omega) h1 (Nat.lt_of_le_of_lt (hl i hd him x (by rw [hre];exact hx)) hB)
 ·exact oR (by omega) h1 (Nat.lt_of_le_of_lt (hu i (by omega) him x (by rw [hre];exact hx)) hU)
theorem kI {c d:Nat} {m:pM}:∀ {k:Nat},ao c d m k=none->∀ i,d<=i->i<d+k->aC m i c=0
 | 0,_,i,h1,h2=>by omega
 | k+1,h,i,h1,h2=>by
  unfold ao at h;cases hb:ao c d m k with
  | none =>
   rw [hb] at h;simp only at h;by_cases h0:aC m (d+k) c=0
   ·by_cases hi:i=d+k;·rw [hi];exact h0
    ·exact kI hb i h1 (by omega)
   ·rw [if_neg h0] at h;cases h
  | some a =>
   rw [hb] at h;simp only at h
   split at h <;> cases h
theorem iH {c d:Nat} {m:pM}:∀ {k a:Nat},ao c d m k=some a->d<=a/\a<d+k/\aC m a c≠0/\∀ i,d<=i->i<d+k->aC m i c≠0->(aC m a c).natAbs<=(aC m i c).natAbs
 | 0,a,h=>by simp [ao] at h
 | k+1,a,h=>by
  unfold ao at h;cases hb:ao c d m k with
  | none =>
   rw [hb] at h;simp only at h;by_cases h0:aC m (d+k) c=0;·rw [if_pos h0] at h;cases h
   ·rw [if_neg h0] at h;obtain rfl:=o5 h;refine ⟨by omega,by omega,h0,fun i h1 h2 h3=>?_⟩;by_cases hi:i=d+k;·rw [hi];exact oz _
    ·exact absurd (kI hb i h1 (by omega)) h3
  | some b =>
   obtain ⟨b1,b2,b3,b4⟩:=iH hb;rw [hb] at h;simp only at h;by_cases hc:aC m (d+k) c≠0/\(aC m (d+k) c).natAbs<(aC m b c).natAbs
   ·rw [if_pos hc] at h;obtain rfl:=o5 h;refine ⟨by omega,by omega,hc.1,fun i h1 h2 h3=>?_⟩;by_cases hi:i=d+k;·rw [hi];exact oz _
    ·have:=b4 i h1 (by omega) h3;omega
   ·rw [if_neg hc] at h;obtain rfl:=o5 h;refine ⟨b1,by omega,b3,fun i h1 h2 h3=>?_⟩;by_cases hi:i=d+k
    ·subst hi;have:¬ (aC m (d+k) c).natAbs<(aC m b c).natAbs:=fun hlt=>hc ⟨h3,hlt⟩;omega
    ·exact b4 i h1 (by omega) h3
theorem Z2b {c d n K B:Nat} {m:pM} (hK:K<=400000000) (h1:1<=K) (hd:d<m.length) (hw:ak n m) (hp:aC m d c≠0) (hB:ev d B m) (vh:B+2<10^K) :
  ∀ k,d+1+k<=m.length->∃ m' rest,cH c d m k=some (m',rest)/\m'.length=m.length/\(∀ i,i<=d\/d+1+k<=i->aD m' i=aD m i) /\
   (∀ i,d<i->i<d+1+k->aD m' i=aU (aL (aC m i c) (aC m d c)) (aD m i) (aD m d))/\(rest=false->∀ i,d<i->i<d+1+k->bF (aC m i c) (aC m d c)=0)/\(rest=true->∃ i,d<i/\i<d+1+k/\bF (aC m i c) (aC m d c)≠0)
 | 0,_=>⟨m,false,rfl,rfl,fun _ _=>rfl,fun i h2 h3=>by omega,fun _ i h2 h3=>by omega,fun h=>by cases h⟩
 | k+1,hk=>by
  obtain ⟨m1,r1,e1,l1,a1,b1,f1,t1⟩:=Z2b hK h1 hd hw hp hB vh k (by omega);have CK:aD m1 d=aD m d:=a1 d (.inl (oz _));have r6:aD m1 (d+1+k)=aD m (d+1+k):=a1 _ (.inr (oz _));have hpe:aC m1 d c=aC m d c:=by unfold aC;rw [CK]
  have FX:aC m1 (d+1+k) c=aC m (d+1+k) c:=by unfold aC;rw [r6]
  have hil:d+1+k<m.length:=by omega
  have hq:(aL (aC m (d+1+k) c) (aC m d c)).natAbs<10^K:=by
   have h2:=(ie (aC m (d+1+k) c) (aC m d c) hp).1;have h3:(aC m (d+1+k) c).natAbs<=B:=(hB _ (by omega) hil).getD c;have h4:1<=(aC m d c).natAbs:=(by omega);have h5:(aL (aC m (d+1+k) c) (aC m d c)).natAbs<=(aC m (d+1+k) c).natAbs+1:=b4_ _ _;omega
  have hlo:=a3_ (k:=aL (aC m (d+1+k) c) (aC m d c)) hK h1 (show (aD m d).length=(aD m (d+1+k)).length by rw [hw d hd,hw _ hil]) (hB _ (by omega) hil) (hB d (oz _) hd) (by omega) (by omega) hq;refine ⟨m1.set (d+1+k) (aU (aL (aC m (d+1+k) c) (aC m d c)) (aD m (d+1+k)) (aD m d)),r1 || decide (bF (aC m (d+1+k) c) (aC m d c)≠0),?_,by rw [List.length_set];exact l1,fun i hi=>?_,fun i h2 h3=>?_,fun hr i h2 h3=>?_,fun hr=>?_⟩
  ·rw [C9_,e1];simp only;rw [hpe,FX,CK,r6,if_neg hp,hlo]
  ·rw [fs (by omega),if_neg (by omega)];exact a1 i (by omega)
  ·rw [fs (by omega)];by_cases hi:i=d+1+k;·rw [if_pos hi,hi]
   ·rw [if_neg hi];exact b1 i h2 (by omega)
  ·rw [Bool.or_eq_false_iff] at hr;by_cases hi:i=d+1+k;·rw [hi];simpa using hr.2
   ·exact f1 hr.1 i h2 (by omega)
  ·rw [Bool.or_eq_true] at hr;rcases hr with hr | hr;·obtain ⟨i,h2,h3,h4⟩:=t1 hr;exact ⟨i,h2,by omega,h4⟩
   ·exact ⟨d+1+k,by omega,by omega,by simpa using hr⟩
theorem my {m:pM} {d a:Nat} (hd:d<m.length) (ha:a<m.length) (i:Nat):aD (a8 m d a) i=if i=a then aD m d else if i=d then aD m a else aD m i:=by
 rw [oW (eL hd) (eL ha),fs (by rw [List.length_set];exact ha)];by_cases h1:i=a;·rw [if_pos h1,if_pos h1]
 ·rw [if_neg h1,if_neg h1,fs hd]
def jb (d c M:Nat) (m:pM):Prop:=∀ i,d<=i->i<m.length->(aC m i c).natAbs<=M
def mD (d c:Nat) (pos:Bool) (m:pM):Prop:=∀ i,d<=i->i<m.length->if pos then 0<=aC m i c else aC m i c<=0
theorem K3_ {n c d K M B U a Q:Nat} {m:pM} (hK:K<=400000000) (h1:1<=K) (hd:d<m.length) (hw:ak n m) (hB:ev d B m) (hU:eU d U m) (hM:jb d c M m) (ha:ao c d m (m.length-d)=some a) (vh:B+2<10^K)
  (hQ:∀ i,d<=i->i<m.length->(aL (aC m i c) (aC m a c)).natAbs<=Q) :
  ∃ m2 rest,cH c d (a8 m d a) (m.length-(d+1))=some (m2,rest)/\m2.length=m.length/\ak n m2/\ev d (B+Q*B) m2/\eU d U m2/\aC m2 d c=aC m a c/\aT B (aD m2 d) /\
   (∀ i,d<i->i<m.length->∃ k,d<=k/\k<m.length/\aC m2 i c=bF (aC m k c) (aC m a c))/\(rest=false->∀ i,d<i->i<m.length->aC m2 i c=0)/\(rest=true->∃ i,d<i/\i<m.length/\aC m2 i c≠0):=by
 obtain ⟨b1,b2,b3,b4⟩:=iH ha;have qV:a<m.length:=by omega
 have hsl:(a8 m d a).length=m.length:=j5 m d a;have hrow:=my hd qV;have zW:∀ i,d<=i->i<m.length->∃ k,d<=k/\k<m.length/\aD (a8 m d a) i=aD m k:=by
  intro i h2 h3;rw [hrow];by_cases e1:i=a;·rw [if_pos e1];exact ⟨d,oz _,hd,rfl⟩
  ·rw [if_neg e1];by_cases e2:i=d;·rw [if_pos e2];exact ⟨a,b1,qV,rfl⟩
   ·rw [if_neg e2];exact ⟨i,h2,h3,rfl⟩
 have yc:ak n (a8 m d a):=by
  intro i hi;rw [hsl] at hi;rw [hrow];by_cases e1:i=a;·rw [if_pos e1];exact hw d hd
  ·rw [if_neg e1];by_cases e2:i=d;·rw [if_pos e2];exact hw a qV
   ·rw [if_neg e2];exact hw i hi
 have ME:ev d B (a8 m d a):=by
  intro i h2 h3;rw [hsl] at h3;obtain ⟨k,k1,k2,k3⟩:=zW i h2 h3;rw [k3];exact hB k k1 k2
 have vu:aD (a8 m d a) d=aD m a:=by
  rw [hrow];by_cases e1:d=a;·rw [if_pos e1,e1]
  ·rw [if_neg e1,if_pos rfl]
 have Ds:aC (a8 m d a) d c=aC m a c:=by unfold aC;rw [vu]
 obtain ⟨m2,rest,e1,e2,e3,e4,e5,e6⟩:=Z2b (K:=K) (B:=B) hK h1 (by rw [hsl];exact hd) yc (by rw [Ds];exact b3) ME vh (m.length-(d+1)) (by rw [hsl];omega);rw [hsl] at e2;have zY:d+1+(m.length-(d+1))=m.length:=by omega
 rw [zY] at e3 e4 e5 e6;rw [Ds] at e4 e5 e6;have pn:aD m2 d=aD m a:=(e3 d (.inl (oz _))).trans vu;have yx:∀ i,d<i->i<m.length->∃ k,d<=k/\k<m.length/\aD (a8 m d a) i=aD m k/\aC (a8 m d a) i c=aC m k c/\aC m2 i c=bF (aC m k c) (aC m a c):=by
  intro i h2 h3;obtain ⟨k,k1,k2,k3⟩:=zW i (by omega) h3;have hg:aC (a8 m d a) i c=aC m k c:=by unfold aC;rw [k3]
  refine ⟨k,k1,k2,k3,hg,?_⟩;show (aD m2 i).getD c 0=_;rw [e4 i h2 h3,en _ (by rw [yc d (by rw [hsl];exact hd),yc i (by rw [hsl];exact h3)]),vu];have h5:=mW (aC m k c) (aC m a c);show aC (a8 m d a) i c-aL (aC (a8 m d a) i c) (aC m a c)*aC m a c=_;rw [hg,Int.mul_comm];omega
 refine ⟨m2,rest,e1,e2,fun i hi=>?_,fun i h2 h3=>?_,fun i h2 h3=>?_,?_,?_,fun i h2 h3=>?_,fun hr i h2 h3=>?_,fun hr=>?_⟩
 ·rw [e2] at hi;by_cases hid:d<i;·rw [e4 i hid hi,eX];exact yc i (by rw [hsl];exact hi)
  ·rw [e3 i (.inl (by omega))];exact yc i (by rw [hsl];exact hi)
 ·rw [e2] at h3;by_cases hid:d<i
  ·obtain ⟨k,k1,k2,k3,k4,-⟩:=yx i hid h3;rw [e4 i hid h3,vu,k3,k4];exact (v9_ _ _ _ (hB k k1 k2) (hB a b1 qV)).mono (Nat.add_le_add_left (Nat.mul_le_mul_right _ (hQ k k1 k2)) _)
  ·obtain rfl:i=d:=(by omega);rw [pn];exact (hB a b1 qV).mono (Nat.le_add_right _ _)
 ·rw [e2] at h3;have hne:i≠a:=by omega
  rw [e3 i (.inl (by omega)),hrow,if_neg hne,if_neg (by omega)];exact hU i h2 h3
 ·show (aD m2 d).getD c 0=_;rw [pn];rfl
 ·rw [pn];exact hB a b1 qV
 ·obtain ⟨k,k1,k2,-,-,k5⟩:=yx i h2 h3;exact ⟨k,k1,k2,k5⟩
 ·obtain ⟨k,k1,k2,-,k4,k5⟩:=yx i h2 h3;rw [k5,<- k4];exact e5 hr i h2 h3
 ·obtain ⟨i,h2,h3,h4⟩:=e6 hr;obtain ⟨k,k1,k2,-,k4,k5⟩:=yx i h2 h3;exact ⟨i,h2,h3,by rw [k5,<- k4];exact h4⟩
theorem Z7g {c d n K C U:Nat} {m:pM} (hK:K<=400000000) (h1:1<=K) (hd:d<m.length) (hw:ak n m) (hp:aC m d c≠0) (hC:aT C (aD m d)) (hU:eU d U m) (x4:C<10^K) (sv:U+2<10^K) :
  ∀ k,k<=d->∃ m',dC c d m k=some m'/\m'.length=m.length/\(∀ i,k<=i->aD m' i=aD m i)/\(∀ i,i<k->aD m' i=aU (aL (aC m i c) (aC m d c)) (aD m i) (aD m d))
 | 0,_=>⟨m,rfl,rfl,fun _ _=>rfl,fun i h=>by omega⟩
 | k+1,hk=>by
  obtain ⟨m1,e1,l1,a1,b1⟩:=Z7g hK h1 hd hw hp hC hU x4 sv k (by omega);have CK:aD m1 d=aD m d:=a1 d (by omega);have r6:aD m1 k=aD m k:=a1 k (oz _);have hpe:aC m1 d c=aC m d c:=by unfold aC;rw [CK]
  have FX:aC m1 k c=aC m k c:=by unfold aC;rw [r6]
  have hq:(aL (aC m k c) (aC m d c)).natAbs<10^K:=by
   have h3:(aC m k c).natAbs<=U:=(hU k (by omega) (by omega)).getD c;have h5:=b4_ (aC m k c) (aC m d c);omega
  have hlo:=a3_ (k:=aL (aC m k c) (aC m d c)) hK h1 (show (aD m d).length=(aD m k).length by rw [hw d hd,hw k (by omega)]) (hU k (by omega) (by omega)) hC (by omega) x4 hq;refine ⟨m1.set k (aU (aL (aC m k c) (aC m d c)) (aD m k) (aD m d)),?_,by rw [List.length_set];exact l1,fun i hi=>?_,fun i hi=>?_⟩
  ·rw [Z0o,e1];simp only;rw [hpe,FX,CK,r6,if_neg hp,hlo]
  ·rw [fs (by omega),if_neg (by omega)];exact a1 i (by omega)
  ·rw [fs (by omega)];by_cases he:i=k;·rw [if_pos he,he]
   ·rw [if_neg he];exact b1 i (by omega)
structure nK (n d c C U:Nat) (m m':pM):Prop where
 len:m'.length=m.length
 wid:ak n m'
 low:ev d C m'
 upp:eU d (U+(U+1)*C) m'
 pos:0<aC m' d c
 zero:∀ i,d<i->i<m.length->aC m' i c=0
 red:∀ i,i<d->0<=aC m' i c/\aC m' i c<aC m' d c
theorem Z2m {n c d K C U:Nat} {m2:pM} (hK:K<=400000000) (h1:1<=K) (hd:d<m2.length) (hw:ak n m2) (hC:ev d C m2) (hU:eU d U m2) (hp:aC m2 d c≠0) (hz:∀ i,d<i->i<m2.length->aC m2 i c=0) (x4:C<10^K) (sv:U+2<10^K) :
  ∃ m4,dC c d (if aC m2 d c<0 then m2.set d ((aD m2 d).map (- ·)) else m2) d=some m4/\nK n d c C U m2 m4:=by
 obtain ⟨m3,vS⟩:=pL ((if aC m2 d c<0 then m2.set d ((aD m2 d).map (- ·)) else m2));rw [<- vS];have hneg:∀ (r:pN),(r.map (- ·)).getD c 0=-(r.getD c 0):=by
  intro r;simp only [oe,oh];cases r[c]? <;> simp
 have l3:m3.length=m2.length:=by rw [vS];split <;> simp
 have r3:∀ i,i≠d->aD m3 i=aD m2 i:=by
  intro i hi;rw [vS];split;·rw [fs hd,if_neg hi]
  ·rfl
 have d3:aD m3 d=aD m2 d/\0<aC m2 d c\/aD m3 d=(aD m2 d).map (- ·)/\aC m2 d c<0:=by
  rw [vS];by_cases hn:aC m2 d c<0;·rw [if_pos hn,fs hd,if_pos rfl];exact .inr ⟨rfl,hn⟩
  ·rw [if_neg hn];exact .inl ⟨rfl,by omega⟩
 have E4:0<aC m3 d c:=by
  rcases d3 with ⟨h,h'⟩ | ⟨h,h'⟩
  ·show 0<(aD m3 d).getD c 0;rw [h];exact h'
  ·show 0<(aD m3 d).getD c 0;rw [h,hneg];have:(aD m2 d).getD c 0<0:=h';omega
 have hw3:ak n m3:=by
  intro i hi;by_cases he:i=d
  ·rw [he];rcases d3 with ⟨h,-⟩ | ⟨h,-⟩
   ·rw [h];exact hw d hd
   ·rw [h,List.length_map];exact hw d hd
  ·rw [r3 i he];exact hw i (by omega)
 have Gt:aT C (aD m3 d):=by
  rcases d3 with ⟨h,-⟩ | ⟨h,-⟩
  ·rw [h];exact hC d (oz _) hd
  ·rw [h];exact (hC d (oz _) hd).neg
 have vb:eU d U m3:=fun i h2 h3=>by rw [r3 i (by omega)];exact hU i h2 (by omega)
 obtain ⟨m4,e1,e2,e3,e4⟩:=Z7g hK h1 (by omega) hw3 (Int.ne_of_gt E4) Gt vb x4 sv d (oz _);have sj:aC m4 d c=aC m3 d c:=by unfold aC;rw [e3 d (oz _)]
 refine ⟨m4,e1,by omega,fun i hi=>?_,fun i h2 h3=>?_,fun i h2 h3=>?_,by rw [sj];exact E4,fun i h2 h3=>?_,fun i h2=>?_⟩
 ·by_cases he:i<d;·rw [e4 i he,eX];exact hw3 i (by omega)
  ·rw [e3 i (by omega)];exact hw3 i (by omega)
 ·rw [e3 i h2];by_cases he:i=d;·rw [he];exact Gt
  ·rw [r3 i he];exact hC i h2 (by omega)
 ·rw [e4 i h2];have hx:(aC m3 i c).natAbs<=U:=(vb i h2 (by omega)).getD c;exact (v9_ _ _ _ (vb i h2 (by omega)) Gt).mono (Nat.add_le_add_left (Nat.mul_le_mul_right _ (ow (b4_ _ _) (by omega))) _)
 ·show (aD m4 i).getD c 0=0;rw [e3 i (by omega),r3 i (by omega)];exact hz i h2 h3
 ·have hg:aC m4 i c=bF (aC m3 i c) (aC m3 d c):=by
   show (aD m4 i).getD c 0=_;rw [e4 i h2,en _ (by rw [hw3 d (by omega),hw3 i (by omega)])];have h5:=mW (aC m3 i c) (aC m3 d c);show aC m3 i c-aL (aC m3 i c) (aC m3 d c)*aC m3 d c=_;rw [Int.mul_comm];omega
  rw [hg,sj];exact lG _ _ E4
theorem y6_ {n c d a f:Nat} {m m2:pM} (hok:bH n m=true) (ha:ao c d m (m.length-d)=some a) (qJ:cH c d (a8 m d a) (m.length-(d+1))=some (m2,true)):db n c d (f+1) m=db n c d f m2:=by
 rw [db,if_pos hok,ha];simp only;rw [qJ]
theorem F2_ {n c d a f K C U:Nat} {m m2:pM} (hK:K<=400000000) (h1:1<=K) (hd:d<m.length) (hok:bH n m=true) (ha:ao c d m (m.length-d)=some a) (qJ:cH c d (a8 m d a) (m.length-(d+1))=some (m2,false))
  (l2:m2.length=m.length) (hw:ak n m2) (hC:ev d C m2) (hU:eU d U m2) (hp:aC m2 d c≠0) (hz:∀ i,d<i->i<m.length->aC m2 i c=0) (x4:C<10^K) (sv:U+2<10^K) :
  ∃ m',db n c d (f+1) m=some (m',true)/\nK n d c C U m m':=by
 obtain ⟨m4,e4,s4⟩:=Z2m hK h1 (by rw [l2];exact hd) hw hC hU hp (by rw [l2];exact hz) x4 sv;have rH:bH n m2=true:=mn hK h1 hw hC hU x4 (by omega);refine ⟨m4,?_,⟨s4.len.trans l2,s4.wid,s4.low,s4.upp,s4.pos,by rw [<- l2];exact s4.zero,s4.red⟩⟩;rw [db,if_pos hok,ha];simp only;rw [qJ];simp only;rw [if_pos rH,e4]
theorem y5_ {n c d K U Y : Nat} (hK : K <= 400000000) (h1 : 1 <= K) (Aa : 2 * Y + 2 < 10 ^ K) (sv : U + 2 < 10 ^ K) (pos : Bool) :
    ∀ (F : Nat) (m : pM) (B M a : Nat), d < m.length -> ak n m -> ev d B m -> eU d U m -> jb d c M m -> mD d c pos m -> ao c d m (m.length - d) = some a -> B * (M * M * (aC m a c).natAbs) <= Y -> (aC m a c).natAbs < F ->
      ∃ m', db n c d F m = some (m', true) /\ nK n d c (2 * Y) U m m'
  | 0, m, B, M, a, _, _, _, _, _, _, _, _, hF => by omega
  | f + 1, m, B, M, a, hd, hw, hB, hU, hM, hS, ha, hY, hF => by
    obtain ⟨b1, b2, b3, b4⟩ := iH ha;have qV : a < m.length := by omega
    obtain ⟨p, hp⟩ : ∃ p, p = (aC m a c).natAbs := ⟨_, rfl⟩;rw [<- hp] at hY hF;have hp1 : 1 <= p := by omega
    have E3 : p <= M := by rw [hp]; exact hM a b1 qV
    have Gf : M * B <= Y := by
      refine ow ?_ hY;rw [Nat.mul_comm M B];refine Nat.mul_le_mul_left _ ?_
      calc M = M * 1 * 1 := by omega
        _ <= M * M * p := Nat.mul_le_mul (Nat.mul_le_mul_left _ (by omega)) hp1
    have MF : B <= Y := ow (Nat.le_mul_of_pos_left B (by omega)) Gf;have tV : ∀ i, d <= i -> i < m.length -> Z48 (aC m i c) (aC m a c) := by
      intro i h2 h3;have s1 := hS i h2 h3;have s2 := hS a b1 qV;cases pos
      · exact .inr ⟨by simpa using s1, by have : aC m a c <= 0 := by simpa using s2
                                          omega⟩
      · exact .inl ⟨by simpa using s1, by have : 0 <= aC m a c := by simpa using s2
                                          omega⟩
    have hQ : ∀ i, d <= i -> i < m.length -> (aL (aC m i c) (aC m a c)).natAbs <= M / p := by
      intro i h2 h3;rw [Nat.le_div_iff_mul_le (by omega), hp];exact ow (mX _ _ (tV i h2 h3)).1 (hM i h2 h3)
    obtain ⟨m2, rest, e1, l2, w2, xB, xA, p2, r2, c2, z2, t2⟩ := K3_ hK h1 hd hw hB hU hM ha (by omega) hQ;have At : (B + M / p * B) * p <= 2 * (M * B) := by
      rw [Nat.add_mul];have h5 : B * p <= M * B := by rw [Nat.mul_comm M B]; exact Nat.mul_le_mul_left _ E3
      have h6 : M / p * B * p <= M * B := by
        rw [Nat.mul_right_comm];exact Nat.mul_le_mul_right _ (Nat.div_mul_le_self M p)
      omega
    have hok : bH n m = true := mn hK h1 hw hB hU (by omega) (by omega);cases rest with
    | false =>
      have As : B + M / p * B <= 2 * Y := by
        have : B + M / p * B <= (B + M / p * B) * p := Nat.le_mul_of_pos_right _ (by omega);omega
      exact F2_ hK h1 hd hok ha e1 l2 w2 (fun i h2 h3 => (xB i h2 h3).mono As) xA (by rw [p2]; exact b3) (z2 rfl) (by omega) sv
    | true =>
      obtain ⟨i, i1, i2, i3⟩ := t2 rfl;obtain ⟨k, k1, k2, k3⟩ := c2 i i1 i2;obtain ⟨a', xq⟩ : ∃ a', ao c d m2 (m2.length - d) = some a' := by
        cases hb : ao c d m2 (m2.length - d) with
        | none => exact absurd (kI hb i (by omega) (by omega)) i3
        | some a' => exact ⟨a', rfl⟩
      obtain ⟨q1, q2, q3, q4⟩ := iH xq;obtain ⟨p', sD⟩ : ∃ p', p' = (aC m2 a' c).natAbs := ⟨_, rfl⟩;have yj : p' <= (aC m2 i c).natAbs := by rw [sD]; exact q4 i (by omega) (by omega) i3
      have hfs := mX _ _ (tV k k1 k2);have hlt : (aC m2 i c).natAbs < p := by rw [k3, hp]; exact (ie _ _ b3).2
      have xd : 2 * p' <= M := by
        have qt : aC m k c ≠ 0 := by
          intro h0;have h9 := hfs.2.1;rw [<- k3, h0] at h9;simp only [Int.natAbs_zero] at h9;omega
        have h7 := hfs.2.2.2 (b4 k k1 (by omega) qt);have h8 := hM k k1 k2;rw [<- k3] at h7;omega
      have rk : jb d c p m2 := by
        intro j j1 j2;by_cases hj : j = d;· rw [hj, p2, hp]; exact oz _
        · obtain ⟨k', xE, xC, sy⟩ := c2 j (by omega) (by omega)
          rw [sy, hp]; exact Nat.le_of_lt (ie _ _ b3).2
      have vd : mD d c pos m2 := by
        intro j j1 j2;by_cases hj : j = d;· rw [hj, p2]; exact hS a b1 qV
        · obtain ⟨k', xE, xC, sy⟩ := c2 j (by omega) (by omega)
          rw [sy];have s2 := hS a b1 qV;have h9 := (mX _ _ (tV k' xE xC)).2.2.1;cases pos
          · have : aC m a c <= 0 := by simpa using s2
            have : bF (aC m k' c) (aC m a c) <= 0 := by rcases h9 with ⟨g1, g2⟩ | ⟨g1, g2⟩ <;> omega
            simpa using this
          · have : 0 <= aC m a c := by simpa using s2
            have : 0 <= bF (aC m k' c) (aC m a c) := by rcases h9 with ⟨g1, g2⟩ | ⟨g1, g2⟩ <;> omega
            simpa using this
      have Ab : (B + M / p * B) * (p * p * (aC m2 a' c).natAbs) <= Y := by
        rw [<- sD]
        calc (B + M / p * B) * (p * p * p') = (B + M / p * B) * p * (p * p') := by simp only [Nat.mul_assoc]
          _ <= 2 * (M * B) * (p * p') := Nat.mul_le_mul_right _ At
          _ = M * B * p * (2 * p') := by simp only [Nat.mul_assoc, Nat.mul_left_comm, Nat.mul_comm]
          _ <= M * B * p * M := Nat.mul_le_mul_left _ xd
          _ = B * (M * M * p) := by simp only [Nat.mul_assoc, Nat.mul_left_comm, Nat.mul_comm]
          _ <= Y := hY
      obtain ⟨m', e', s'⟩ := y5_ hK h1 Aa sv pos f m2 (B + M / p * B) p a' (by omega) w2 xB xA rk vd xq Ab (by omega);exact ⟨m', (y6_ hok ha e1).trans e', ⟨s'.len.trans l2, s'.wid, s'.low, s'.upp, s'.pos, by rw [<- l2]; exact s'.zero, s'.red⟩⟩
theorem Z5n {n c d K U B F:Nat} {m:pM} (hK:K<=400000000) (h1:1<=K) (Aa:2*(3*(B*B*(B*B)))+2<10^K) (vh:B+2<10^K) (sv:U+2<10^K) (hF:B<F) (hd:d<m.length) (hw:ak n m) (hB:ev d B m) (hU:eU d U m) :
  (db n c d F m=some (m,false)/\∀ i,d<=i->i<m.length->aC m i c=0)\/∃ m',db n c d F m=some (m',true)/\nK n d c (2*(3*(B*B*(B*B)))) U m m':=by
 obtain ⟨f,rfl⟩:∃ f,F=f+1:=⟨F-1,by omega⟩;have hok:bH n m=true:=mn hK h1 hw hB hU (by omega) (by omega);cases ha:ao c d m (m.length-d) with
 | none=>exact .inl ⟨by rw [db,if_pos hok,ha],fun i h2 h3=>kI ha i h2 (by omega)⟩
 | some a =>
  right;obtain ⟨b1,b2,b3,b4⟩:=iH ha;have qV:a<m.length:=by omega
  obtain ⟨p,hp⟩:∃ p,p=(aC m a c).natAbs:=⟨_,rfl⟩;have hM:jb d c B m:=fun i h2 h3=>(hB i h2 h3).getD c;have hp1:1<=p:=by omega
  have CQ:p<=B:=by rw [hp];exact hM a b1 qV
  have hQ:∀ i,d<=i->i<m.length->(aL (aC m i c) (aC m a c)).natAbs<=(2*B) / p:=by
   intro i h2 h3;rw [Nat.le_div_iff_mul_le (by omega),hp];have h5:=(ie (aC m i c) (aC m a c) b3).1;have h6:=hM i h2 h3;omega
  obtain ⟨m2,rest,e1,l2,w2,xB,xA,p2,r2,c2,z2,t2⟩:=K3_ hK h1 hd hw hB hU hM ha vh hQ;have At:(B+(2*B) / p*B)*p<=3*(B*B):=by
   rw [Nat.add_mul];have h5:B*p<=B*B:=Nat.mul_le_mul_left _ CQ;have h6:(2*B) / p*B*p<=2*B*B:=by
    rw [Nat.mul_right_comm];exact Nat.mul_le_mul_right _ (Nat.div_mul_le_self _ p)
   have h7:2*B*B=2*(B*B):=Nat.mul_assoc _ _ _;omega
  have MG:B*B<=B*B*(B*B):=Nat.le_mul_of_pos_right _ (Nat.mul_pos (by omega) (by omega));cases rest with
  | false =>
   have As:B+(2*B) / p*B<=2*(3*(B*B*(B*B))):=by
    have:B+(2*B) / p*B<=(B+(2*B) / p*B)*p:=Nat.le_mul_of_pos_right _ (by omega);omega
   exact F2_ hK h1 hd hok ha e1 l2 w2 (fun i h2 h3=>(xB i h2 h3).mono As) xA (by rw [p2];exact b3) (z2 rfl) (by omega) sv
  | true =>
   obtain ⟨i,i1,i2,i3⟩:=t2 rfl;obtain ⟨k,k1,k2,k3⟩:=c2 i i1 i2;obtain ⟨a',xq⟩:∃ a',ao c d m2 (m2.length-d)=some a':=by
    cases hb:ao c d m2 (m2.length-d) with
    | none=>exact absurd (kI hb i (by omega) (by omega)) i3
    | some a'=>exact ⟨a',rfl⟩
   obtain ⟨q1,q2,q3,q4⟩:=iH xq;obtain ⟨p',sD⟩:∃ p',p'=(aC m2 a' c).natAbs:=⟨_,rfl⟩;have yj:p'<=(aC m2 i c).natAbs:=(by rw [sD];exact q4 i (by omega) (by omega) i3);have hlt:(aC m2 i c).natAbs<p:=(by rw [k3,hp];exact (ie _ _ b3).2);have rk:jb d c p m2:=by
    intro j j1 j2;by_cases hj:j=d;·rw [hj,p2,hp];exact oz _
    ·obtain ⟨k',xE,xC,sy⟩:=c2 j (by omega) (by omega);rw [sy,hp];exact Nat.le_of_lt (ie _ _ b3).2
   have vd:mD d c (decide (0<aC m a c)) m2:=by
    intro j j1 j2;have xa:0<aC m a c->0<=aC m2 j c:=by
     intro hpos;by_cases hj:j=d;·rw [hj,p2];omega
     ·obtain ⟨k',xE,xC,sy⟩:=c2 j (by omega) (by omega);rw [sy];exact (lG _ _ hpos).1
    have FV:aC m a c<0->aC m2 j c<=0:=by
     intro hneg;by_cases hj:j=d;·rw [hj,p2];omega
     ·obtain ⟨k',xE,xC,sy⟩:=c2 j (by omega) (by omega);rw [sy];exact (nt _ _ hneg).2
    by_cases hpos:0<aC m a c;·simp only [hpos,decide_true,if_true];exact xa hpos
    ·simp only [hpos,decide_false];exact FV (by omega)
   have Ab:(B+(2*B) / p*B)*(p*p*(aC m2 a' c).natAbs)<=3*(B*B*(B*B)):=by
    rw [<- sD]
    calc (B+(2*B) / p*B)*(p*p*p')=(B+(2*B) / p*B)*p*(p*p'):=by simp only [Nat.mul_assoc]
     _<=3*(B*B)*(p*p'):=Nat.mul_le_mul_right _ At
     _<=3*(B*B)*(B*B):=Nat.mul_le_mul_left _ (Nat.mul_le_mul CQ (by omega))
     _=3*(B*B*(B*B)):=Nat.mul_assoc _ _ _
   obtain ⟨m',e',s'⟩:=y5_ hK h1 Aa sv (decide (0<aC m a c)) f m2 (B+(2*B) / p*B) p a' (by omega) w2 xB xA rk vd xq Ab (by omega);exact ⟨m',(y6_ hok ha e1).trans e',⟨s'.len.trans l2,s'.wid,s'.low,s'.upp,s'.pos,by rw [<- l2];exact s'.zero,s'.red⟩⟩
def gN:Nat->Nat->Nat->Nat×Nat
 | 0,b,u=>(b,u)
 | r+1,b,u=>gN r (4*b+1) (u+4*b+2)
theorem mY:∀ r b u,b<=(gN r b u).1/\u<=(gN r b u).2
 | 0,b,u=>⟨oz _,oz _⟩
 | r+1,b,u=>by
  have:=mY r (4*b+1) (u+4*b+2);unfold gN;omega
theorem Z7O (b:Nat):10^b*10^b*(10^b*10^b)=10^(4*b):=by
 rw [<- Nat.pow_add,<- Nat.pow_add];congr 1;omega
theorem lp {a b:Nat} (h:a<=b):10^a<=10^b:=Nat.pow_le_pow_right (by decide) h
theorem V9_ (b:Nat):10^(b+1)=10*10^b:=by rw [Nat.pow_succ,Nat.mul_comm]
theorem G3_ (b:Nat):1<=10^b:=Nat.pos_of_ne_zero (by simp)
theorem e5_ {d:Nat} {A B C:Nat} {m:pM} (hl:ev d A m) (hu:eU d B m) (hA:A<=C) (hB:B<=C) (e:Nat):eU e C m:=by
 intro i h1 h2;by_cases h:i<d;·exact (hu i h h2).mono hB
 ·exact (hl i (by omega) h2).mono hA
inductive Sp (n:Nat) (S:pN->Prop):pN->Prop
 | zero:Sp n S (List.replicate n 0)
 | mem {r} (h:S r):Sp n S r
 | less {r s} (k:Int) (h:Sp n S r) (h':Sp n S s):Sp n S (aU k r s)
def kt (n:Nat) (S:pN->Prop):Prop:=∀ r,S r->r.length=n
theorem Sp.len {n:Nat} {S:pN->Prop} (hS:kt n S) {r:pN} (h:Sp n S r):r.length=n:=by
 induction h with
 | zero=>simp
 | mem h=>exact hS _ h
 | less k h h' ih ih'=>rw [eX];exact ih
theorem Sp.mono {n:Nat} {S T:pN->Prop} (hS:∀ r,S r->Sp n T r) {r:pN} (h:Sp n S r):Sp n T r:=by
 induction h with
 | zero=>exact .zero
 | mem h=>exact hS _ h
 | less k h h' ih ih'=>exact .less k ih ih'
theorem Sp.zeroCol {n c:Nat} {S:pN->Prop} (hS:kt n S) (hz:∀ r,S r->r.getD c 0=0) {r:pN} (h:Sp n S r):r.getD c 0=0:=by
 induction h with
 | zero =>
  rw [oe];by_cases hc:c<n;·rw [oc (by simpa using hc)];simp
  ·rw [o4 (by simp;omega)];rfl
 | mem h=>exact hz _ h
 | less k h h' ih ih' =>
  rw [en k (by rw [h.len hS,h'.len hS]),ih,ih'];simp
theorem Q8_ (k:Int):∀ (r s:pN),aU (-k) (aU k r s) s=r
 | r,[]=>by
  have h1:aU k r []=r:=by cases r <;> rfl
  rw [h1];cases r <;> rfl
 | [],_::_=>rfl
 | a::r,b::s=>by
  have e:aU (-k) (aU k (a::r) (b::s)) (b::s)=(a-k*b - -k*b)::aU (-k) (aU k r s) s:=rfl;rw [e,Q8_ k r s,Int.neg_mul];congr 1;omega
theorem n0_:∀ (r:pN),aU 1 (List.replicate r.length 0) r=r.map (- ·)
 | []=>rfl
 | a::r=>by
  have e:aU 1 (List.replicate (a::r).length 0) (a::r)=(0-1*a)::aU 1 (List.replicate r.length 0) r:=rfl;rw [e,n0_ r,List.map_cons];congr 1;omega
theorem Sp.neg {n:Nat} {S:pN->Prop} {r:pN} (h:Sp n S r) (hl:r.length=n):Sp n S (r.map (- ·)):=by
 rw [<- n0_,hl];exact .less 1 .zero h
theorem A0_ {k:Int} {r s r':pN} (h:eS k r s=some r'):r'=aU k r s:=by
 unfold eS at h
 split at h
 ·rename_i h0;rw [h0,jL];exact (o5 h).symm
 ·split at h
  ·exact (o5 h).symm
  ·cases h
def aG (d:Nat) (m:pM):pN->Prop:=fun r=>∃ i,d<=i/\i<m.length/\aD m i=r
def bT (n:Nat) (S T:pN->Prop):Prop:=(∀ r,S r->Sp n T r)/\(∀ r,T r->Sp n S r)
theorem bT.refl (n:Nat) (S:pN->Prop):bT n S S:=⟨fun _ h=>.mem h,fun _ h=>.mem h⟩
theorem bT.trans {n:Nat} {S T V:pN->Prop} (h:bT n S T) (k:bT n T V):bT n S V:=⟨fun r hr=>(h.1 r hr).mono k.1,fun r hr=>(k.2 r hr).mono h.2⟩
theorem bT.iff {n:Nat} {S T:pN->Prop} (h:bT n S T) (r:pN):Sp n S r↔Sp n T r:=⟨fun hr=>hr.mono h.1,fun hr=>hr.mono h.2⟩
theorem cT {n d:Nat} {m:pM} (hw:ak n m):kt n (aG d m):=by rintro r ⟨i,-,hi,rfl⟩;exact hw i hi
theorem az {d i:Nat} {m:pM} (h1:d<=i) (h2:i<m.length):aG d m (aD m i):=⟨i,h1,h2,rfl⟩
theorem Z3U {n d a:Nat} {m:pM} (hd:d<m.length) (ha:a<m.length) (wG:d<=a):bT n (aG d m) (aG d (a8 m d a)):=by
 have hr:=my hd ha;have hl:=j5 m d a;constructor
 ·rintro r ⟨i,h1,h2,rfl⟩;refine .mem ?_;by_cases e1:i=a
  ·refine ⟨d,oz _,by omega,?_⟩;rw [hr,e1];by_cases e2:d=a;·rw [if_pos e2,e2]
   ·rw [if_neg e2,if_pos rfl]
  ·by_cases e2:i=d;·exact ⟨a,wG,by omega,by rw [hr,if_pos rfl,e2]⟩
   ·exact ⟨i,h1,by omega,by rw [hr,if_neg e1,if_neg e2]⟩
 ·rintro r ⟨i,h1,h2,rfl⟩;refine .mem ?_;rw [hr];by_cases e1:i=a;·rw [if_pos e1];exact az (oz _) hd
  ·rw [if_neg e1];by_cases e2:i=d;·rw [if_pos e2];exact az wG ha
   ·rw [if_neg e2];exact az h1 (by omega)
theorem w6_ {c d:Nat} {m:pM}:∀ {k m' rest},cH c d m k=some (m',rest)->d+1+k<=m.length->∀ i,d<i->i<d+1+k->∃ q,aD m' i=aU q (aD m i) (aD m d)
 | 0,m',rest,h,hk,i,h1,h2=>by omega
 | k+1,m',rest,h,hk,i,h1,h2=>by
  obtain ⟨m1,r1,r,e1,e2,e3,e4⟩:=nn h;obtain ⟨l1,l2,l3⟩:=kQ e1 (by omega);simp only [Prod.mk.injEq] at e4;obtain ⟨rfl,-⟩:=e4;rw [fs (by omega)];by_cases he:i=d+1+k;·rw [if_pos he,A0_ e3,l2 d (.inl (oz _)),l2 (d+1+k) (.inr (oz _)),he];exact ⟨_,rfl⟩
  ·rw [if_neg he];exact w6_ e1 (by omega) i h1 (by omega)
theorem Z5N {c d:Nat} {m:pM}:∀ {k m'},dC c d m k=some m'->k<=d->d<m.length->∀ i,i<k->∃ q,aD m' i=aU q (aD m i) (aD m d)
 | 0,m',h,hk,hd,i,h1=>by omega
 | k+1,m',h,hk,hd,i,h1=>by
  obtain ⟨m1,r,e1,e2,e3,rfl⟩:=nE h;obtain ⟨l1,l2,l3⟩:=oX e1 (by omega) hd;rw [fs (by omega)];by_cases he:i=k;·rw [if_pos he,A0_ e3,l2 d (by omega),l2 k (oz _),he];exact ⟨_,rfl⟩
  ·rw [if_neg he];exact Z5N e1 (by omega) hd i (by omega)
theorem Z2c {n c d k:Nat} {m m':pM} {rest:Bool} (h:cH c d m k=some (m',rest)) (hk:d+1+k<=m.length):bT n (aG d m) (aG d m'):=by
 obtain ⟨l1,l2,l3⟩:=kQ h hk;have hd:aD m' d=aD m d:=l2 d (.inl (oz _));constructor
 ·rintro r ⟨i,h1,h2,rfl⟩;by_cases he:d<i/\i<d+1+k
  ·obtain ⟨q,hq⟩:=w6_ h hk i he.1 he.2;rw [<- Q8_ q (aD m i) (aD m d),<- hq,<- hd];exact .less _ (.mem (az h1 (by omega))) (.mem (az (oz _) (by omega)))
  ·rw [<- l2 i (by omega)];exact .mem (az h1 (by omega))
 ·rintro r ⟨i,h1,h2,rfl⟩;by_cases he:d<i/\i<d+1+k
  ·obtain ⟨q,hq⟩:=w6_ h hk i he.1 he.2;rw [hq];exact .less _ (.mem (az h1 (by omega))) (.mem (az (oz _) (by omega)))
  ·rw [l2 i (by omega)];exact .mem (az h1 (by omega))
structure SwK (n d:Nat) (m m':pM):Prop where
 len:m'.length=m.length
 wid:ak n m'
 sp:bT n (aG d m) (aG d m')
 ahead:∀ i,i<d->∃ q,aD m' i=aU q (aD m i) (aD m' d)
theorem k9_ {n c d:Nat}:∀ {F:Nat} {m m':pM} {b:Bool},db n c d F m=some (m',b)->d<m.length->ak n m->SwK n d m m'
 | 0,m,m',b,h,hd,hw=>by cases h
 | f+1,m,m',b,h,hd,hw=>by
  rw [db] at h;by_cases hok:bH n m=true
  ·rw [if_pos hok] at h;cases ha:ao c d m (m.length-d) with
   | none =>
    rw [ha] at h;simp only [Option.some.injEq,Prod.mk.injEq] at h;obtain ⟨rfl,-⟩:=h;exact ⟨rfl,hw,bT.refl _ _,fun i _=>⟨0,(jL _ _).symm⟩⟩
   | some a =>
    rw [ha] at h;simp only at h;obtain ⟨b1,b2,b3,b4⟩:=iH ha;have qV:a<m.length:=(by omega);have hsl:=j5 m d a;have yc:ak n (a8 m d a):=by
     intro i hi;rw [my hd qV]
     split
     ·exact hw d hd
     ·split
      ·exact hw a qV
      ·exact hw i (by omega)
    cases qJ:cH c d (a8 m d a) (m.length-(d+1)) with
    | none=>rw [qJ] at h;cases h
    | some y =>
     obtain ⟨m2,rest⟩:=y;rw [qJ] at h;obtain ⟨l1,l2,l3⟩:=kQ qJ (by omega);have rZ:ak n m2:=fun i hi=>by rw [l3 i];exact yc i (by omega)
     have hsp:bT n (aG d m) (aG d m2):=(Z3U hd qV b1).trans (Z2c qJ (by omega));have Cx:∀ i,i<d->aD m2 i=aD m i:=fun i hi=>by
      rw [l2 i (.inl (by omega)),my hd qV,if_neg (by omega),if_neg (by omega)]
     cases rest with
     | true =>
      simp only at h;have s:=k9_ h (by omega) rZ;refine ⟨by rw [s.len,l1,hsl],s.wid,hsp.trans s.sp,fun i hi=>?_⟩;obtain ⟨q,hq⟩:=s.ahead i hi;rw [Cx i hi] at hq;exact ⟨q,hq⟩
     | false =>
      simp only at h;by_cases rH:bH n m2=true
      ·rw [if_pos rH] at h;obtain ⟨m3,vS⟩:=pL ((if aC m2 d c<0 then m2.set d ((aD m2 d).map (- ·)) else m2));rw [<- vS] at h;have hd2:d<m2.length:=(by omega);have NA:m3.length=m2.length:=by rw [vS];split <;> simp
       have r3:∀ i,i≠d->aD m3 i=aD m2 i:=by
        intro i hi;rw [vS];split;·rw [fs hd2,if_neg hi]
        ·rfl
       have d3:aD m3 d=aD m2 d\/aD m3 d=(aD m2 d).map (- ·):=by
        rw [vS];split;·rw [fs hd2,if_pos rfl];exact .inr rfl
        ·exact .inl rfl
       have AG:∀ r:pN,(r.map (- ·)).map (- ·)=r:=fun r=>by
        rw [List.map_map];have:((fun x:Int=>-x) ∘ fun x:Int=>-x)=id:=(by funext x;simp);rw [this,List.map_id]
       have KT:bT n (aG d m2) (aG d m3):=by
        constructor
        ·rintro r ⟨i,h1,h2,rfl⟩;by_cases he:i=d
         ·rw [he];rcases d3 with e | e;·rw [<- e];exact .mem (az (oz _) (by omega))
          ·rw [<- AG (aD m2 d),<- e];refine (Sp.mem (az (oz _) (by omega))).neg ?_;rw [e,List.length_map];exact rZ d hd2
         ·rw [<- r3 i he];exact .mem (az h1 (by omega))
        ·rintro r ⟨i,h1,h2,rfl⟩;by_cases he:i=d
         ·rw [he];rcases d3 with e | e;·rw [e];exact .mem (az (oz _) hd2)
          ·rw [e];exact (Sp.mem (az (oz _) hd2)).neg (rZ d hd2)
         ·rw [r3 i he];exact .mem (az h1 (by omega))
       have hw3:ak n m3:=by
        intro i hi;by_cases he:i=d
        ·rw [he];rcases d3 with e | e
         ·rw [e];exact rZ d hd2
         ·rw [e,List.length_map];exact rZ d hd2
        ·rw [r3 i he];exact rZ i (by omega)
       cases hu:dC c d m3 d with
       | none=>rw [hu] at h;cases h
       | some m4 =>
        rw [hu] at h;simp only [Option.some.injEq,Prod.mk.injEq] at h;obtain ⟨rfl,-⟩:=h;obtain ⟨u1,u2,u3⟩:=oX hu (oz _) (by omega);refine ⟨by omega,fun i hi=>by rw [u3 i];exact hw3 i (by omega),(hsp.trans KT).trans ?_,fun i hi=>?_⟩
        ·constructor
         ·rintro r ⟨i,h1,h2,rfl⟩;rw [<- u2 i h1];exact .mem (az h1 (by omega))
         ·rintro r ⟨i,h1,h2,rfl⟩;rw [u2 i h1];exact .mem (az h1 (by omega))
        ·obtain ⟨q,hq⟩:=Z5N hu (oz _) (by omega) i hi;refine ⟨q,?_⟩;rw [hq,u2 d (oz _),r3 i (by omega),Cx i hi]
      ·rw [if_neg rH] at h;cases h
  ·rw [if_neg hok] at h;cases h
structure HP (m:pM) (d c:Nat) (ps:Nat->Nat):Prop where
 lt:∀ i,i<d->ps i<c
 mono:∀ i j,i<j->j<d->ps i<ps j
 zero:∀ i,i<d->∀ c',c'<ps i->aC m i c'=0
 pos:∀ i,i<d->0<aC m i (ps i)
 red:∀ i j,i<j->j<d->0<=aC m i (ps j)/\aC m i (ps j)<aC m j (ps j)
 rest:∀ i,d<=i->i<m.length->∀ c',c'<c->aC m i c'=0
theorem HP.step {n c d C U:Nat} {m m':pM} {ps:Nat->Nat} (h:HP m d c ps) (hd:d<m.length) (hw:ak n m) (s:nK n d c C U m m') (k:SwK n d m m'):HP m' (d+1) (c+1) (fun i=>if i<d then ps i else c):=by
 have hz:∀ i,d<=i->i<m'.length->∀ c',c'<c->aC m' i c'=0:=by
  intro i h1 h2 c' hc;have hi:Sp n (aG d m) (aD m' i):=k.sp.2 _ (az h1 h2);exact hi.zeroCol (cT hw) (by rintro r ⟨j,j1,j2,rfl⟩;exact h.rest j j1 j2 c' hc)
 have pw:∀ i,i<d->∀ c',c'<c->aC m' i c'=aC m i c':=by
  intro i hi c' hc;obtain ⟨q,hq⟩:=k.ahead i hi;have h0:=hz d (oz _) (by rw [s.len];exact hd) c' hc;show (aD m' i).getD c' 0=_;rw [hq,en q (by rw [s.wid d (by rw [s.len];exact hd),hw i (by omega)])];have h1:(aD m' d).getD c' 0=0:=h0;rw [h1];simp;rfl
 refine ⟨fun i hi=>?_,fun i j qH hj=>?_,fun i hi c' hc=>?_,fun i hi=>?_,fun i j qH hj=>?_,fun i h1 h2 c' hc=>?_⟩
 ·split
  ·rename_i rK;have:=h.lt i rK;omega
  ·omega
 ·rw [if_pos (show i<d by omega)]
  split
  ·rename_i rK;exact h.mono i j qH rK
  ·exact h.lt i (by omega)
 ·split at hc
  ·rename_i rK;rw [pw i rK c' (by have:=h.lt i rK;omega)];exact h.zero i rK c' hc
  ·obtain rfl:i=d:=(by omega);exact hz i (oz _) (by rw [s.len];exact hd) c' hc
 ·split
  ·rename_i rK;rw [pw i rK _ (h.lt i rK)];exact h.pos i rK
  ·obtain rfl:i=d:=(by omega);exact s.pos
 ·split
  ·rename_i rK;rw [pw i (by omega) _ (h.lt j rK),pw j rK _ (h.lt j rK)];exact h.red i j qH rK
  ·obtain rfl:j=d:=(by omega);exact s.red i qH
 ·by_cases rh:c'=c;·rw [rh];exact s.zero i (by omega) (by rw [<- s.len];exact h2)
  ·exact hz i (by omega) h2 c' (by omega)
theorem Z7e {n d:Nat} {m m':pM} (k:SwK n d m m') (hd:d<m.length):bT n (aG 0 m) (aG 0 m'):=by
 have zY:∀ {x:pM} {r},aG d x r->aG 0 x r:=fun ⟨i,h1,h2,h3⟩=>⟨i,by omega,h2,h3⟩
 constructor
 ·rintro r ⟨i,-,h2,rfl⟩;by_cases hi:i<d
  ·obtain ⟨q,hq⟩:=k.ahead i hi;rw [<- Q8_ q (aD m i) (aD m' d),<- hq];exact .less _ (.mem (az (by omega) (by rw [k.len];exact h2))) (.mem (az (by omega) (by rw [k.len];exact hd)))
  ·exact (k.sp.1 _ (az (by omega) h2)).mono fun r hr=>.mem (zY hr)
 ·rintro r ⟨i,-,h2,rfl⟩;by_cases hi:i<d
  ·obtain ⟨q,hq⟩:=k.ahead i hi;rw [hq];refine .less _ (.mem (az (by omega) (by omega))) ?_;exact (k.sp.2 _ (az (oz _) (by rw [k.len];exact hd))).mono fun r hr=>.mem (zY hr)
  ·exact (k.sp.2 _ (az (by omega) h2)).mono fun r hr=>.mem (zY hr)
theorem L0_ {n K F:Nat} (hK:K<=400000000) :
  ∀ (k c d r b u:Nat) (m:pM) (ps:Nat->Nat),d<=m.length->ak n m->ev d (10^b) m->eU d (10^u) m->HP m d c ps->(m.length-d<=r\/k<=r)->(gN r b u).1+1<=K->(gN r b u).2+1<=K->10^(gN r b u).1<F ->
   ∃ m' d' ps',cB n F k c d m=some (m',d')/\m'.length=m.length/\d'<=m'.length/\ak n m'/\eU d' (10^(gN r b u).2) m'/\HP m' d' (c+k) ps'/\bT n (aG 0 m) (aG 0 m')
 | 0,c,d,r,b,u,m,ps,hd,hw,hl,hu,hp,hr,h1,h2,hF=>⟨m,d,ps,rfl,rfl,hd,hw,fun i a1 a2=>(hu i a1 a2).mono (lp (mY r b u).2),hp,bT.refl _ _⟩
 | k+1,c,d,r,b,u,m,ps,hd,hw,hl,hu,hp,hr,h1,h2,hF=>by
  have hg:=mY r b u;by_cases hlt:d<m.length
  ·obtain ⟨r,rfl⟩:∃ r',r=r'+1:=⟨r-1,by omega⟩;have hg1:=mY r (4*b+1) (u+4*b+2);have e1:gN (r+1) b u=gN r (4*b+1) (u+4*b+2):=rfl;rw [e1] at hg h1 h2 hF;have p4:=G3_ (4*b);have pb:=G3_ b;have pu:=G3_ u;have hY:2*(3*(10^b*10^b*(10^b*10^b)))+2<10^K:=by
    rw [Z7O];have e2:=V9_ (4*b);have e3:10^(4*b+1)<=10^K:=lp (by omega);omega
   have vh:10^b+2<10^K:=by
    have e2:=V9_ b;have e3:10^(b+1)<=10^K:=lp (by omega);omega
   have sv:10^u+2<10^K:=by
    have e2:=V9_ u;have e3:10^(u+1)<=10^K:=lp (by omega);omega
   have L9:10^b<F:=Nat.lt_of_le_of_lt (lp hg.1) hF;have hC:2*(3*(10^b*10^b*(10^b*10^b)))<=10^(4*b+1):=by
    rw [Z7O,V9_];omega
   have EB:10^(4*b+1)<=10^(u+4*b+2):=lp (by omega);have vw:10^u+(10^u+1)*(2*(3*(10^b*10^b*(10^b*10^b))))<=10^(u+4*b+2):=by
    rw [Z7O];have e2:10^(u+4*b+2)=100*(10^u*10^(4*b)):=(by rw [Nat.pow_succ,Nat.pow_succ,Nat.pow_add];omega);have e3:10^u<=10^u*10^(4*b):=Nat.le_mul_of_pos_right _ (by omega);have e4:10^(4*b)<=10^u*10^(4*b):=Nat.le_mul_of_pos_left _ (by omega);have e5:(10^u+1)*(2*(3*10^(4*b)))=6*(10^u*10^(4*b))+6*10^(4*b):=by
     rw [Nat.add_mul,Nat.one_mul,Nat.mul_left_comm,Nat.mul_left_comm _ 3];omega
    rw [e2,e5];omega
   rcases Z5n (n:=n) (c:=c) (F:=F) hK (by omega) hY vh sv L9 hlt hw hl hu with ⟨hs,hz⟩ | ⟨m',hs,s⟩
   ·have wV:m.length-d<=r+1\/k<=r+1:=by omega
    have sD:HP m d (c+1) ps:=⟨fun i hi=>by have:=hp.lt i hi;omega,hp.mono,hp.zero,hp.pos,hp.red,fun i a1 a2 c' hc=>by
     by_cases rh:c'=c;·rw [rh];exact hz i a1 a2
     ·exact hp.rest i a1 a2 c' (by omega)⟩
    obtain ⟨m',d',ps',q1,q2,q3,q4,q5,q6,q7⟩:=L0_ hK k (c+1) d (r+1) b u m ps hd hw hl hu sD wV (by rw [e1];exact h1) (by rw [e1];exact h2) (by rw [e1];exact hF);refine ⟨m',d',ps',?_,q2,q3,q4,q5,by rw [Nat.add_right_comm] at q6;exact q6,q7⟩;rw [cB,if_pos hlt,hs];exact q1
   ·have hk:=k9_ hs hlt hw;have hlow:ev (d+1) (10^(4*b+1)) m':=fun i a1 a2=>(s.low i (by omega) a2).mono hC;have zx:eU (d+1) (10^(u+4*b+2)) m':=e5_ s.low s.upp (ow hC EB) vw (d+1);have wV:m'.length-(d+1)<=r\/k<=r:=by have:=s.len;omega
    obtain ⟨m2,d',ps',q1,q2,q3,q4,q5,q6,q7⟩:=L0_ hK k (c+1) (d+1) r (4*b+1) (u+4*b+2) m' _ (by rw [s.len];omega) s.wid hlow zx (hp.step hlt hw s hk) wV h1 h2 hF;refine ⟨m2,d',ps',?_,q2.trans s.len,q3,q4,q5,by rw [Nat.add_right_comm] at q6;exact q6,(Z7e hk hlt).trans q7⟩;rw [cB,if_pos hlt,hs];exact q1
  ·refine ⟨m,d,ps,?_,rfl,hd,hw,fun i a1 a2=>(hu i a1 a2).mono (lp hg.2),⟨fun i hi=>by have:=hp.lt i hi;omega,hp.mono,hp.zero,hp.pos,hp.red,fun i a1 a2=>by omega⟩,bT.refl _ _⟩;rw [cB,if_neg hlt]
def a_ (n:Nat) (R:pM) (ps:Nat->Nat):Prop:=ak n R/\HP R R.length n ps
theorem j0 {m:pM} {d i:Nat} (h:i<d):aD (m.take d) i=aD m i:=by
 unfold aD;rw [oe,oe,List.getElem?_take,if_pos h]
theorem T9_ {m:pM} {d i c:Nat} (h:i<d):aC (m.take d) i c=aC m i c:=by unfold aC;rw [j0 h]
theorem t8_ {n:Nat} {r:pN} (hl:r.length=n) (hz:∀ c,c<n->r.getD c 0=0):r=List.replicate n 0:=by
 apply List.ext_getElem (by simpa using hl);intro i h1 h2;have:=hz i (by omega);rw [oe,oc h1] at this;simpa using this
theorem nw (n r b:Nat) (m:pM) (hw:∀ x∈m,x.length=n) (hb:∀ x∈m,aT (10^b) x) (hr:m.length<=r\/n<=r) (h1:(gN r b 0).1+1<=400000000) (h2:(gN r b 0).2+1<=400000000) :
  ∃ F R ps,dj n F n m=some R/\R.length<=m.length/\a_ n R ps/\(∀ x∈R,aT (10^(gN r b 0).2) x)/\bT n (aG 0 m) (aG 0 R):=by
 have hmem:∀ (m':pM) i,i<m'.length->aD m' i∈m':=fun m' i hi=>og (eL hi);have EY:ak n m:=fun i hi=>hw _ (hmem m i hi);obtain ⟨m',d',ps,q1,q2,q3,q4,q5,q6,q7⟩:=L0_ (n:=n) (F:=10^(gN r b 0).1+1) (oz 400000000) n 0 0 r b 0 m (fun _=>0) (by omega) EY (fun i _ hi=>hb _ (hmem m i hi)) (fun i hi _=>by omega)
  ⟨fun i hi=>by omega,fun i j _ hj=>by omega,fun i hi=>by omega,fun i hi=>by omega,fun i j _ hj=>by omega,fun i _ _ c' hc=>by omega⟩ (by omega) h1 h2 (Nat.lt_succ_self _)
 rw [Nat.zero_add] at q6;have hlen:(m'.take d').length=d':=by rw [om];omega
 have hW:ak n (m'.take d'):=fun i hi=>by rw [hlen] at hi;rw [j0 hi];exact q4 i (by omega)
 refine ⟨10^(gN r b 0).1+1,m'.take d',ps,by unfold dj;rw [q1],by rw [hlen,<- q2];exact q3,⟨hW,?_⟩,fun x hx=>?_,q7.trans ?_⟩
 ·rw [hlen]
  exact ⟨q6.lt,q6.mono,fun i hi c' hc=>by rw [T9_ hi];exact q6.zero i hi c' hc,fun i hi=>by rw [T9_ hi];exact q6.pos i hi,fun i j qH hj=>by
   rw [T9_ (show i<d' by omega),T9_ hj];exact q6.red i j qH hj,fun i a1 a2=>by rw [hlen] at a2;omega⟩
 ·obtain ⟨i,hi⟩:=List.getElem?_of_mem hx;have hil:=(od.1 hi).1;rw [hlen] at hil;rw [<- eO hi,j0 hil];exact q5 i hil (by omega)
 ·constructor
  ·rintro x ⟨i,-,h2,rfl⟩;by_cases hi:i<d';·rw [<- j0 (m:=m') hi];exact .mem (az (by omega) (by omega))
   ·rw [t8_ (q4 i h2) (fun c hc=>q6.rest i (by omega) h2 c hc)];exact .zero
  ·rintro x ⟨i,-,h2,rfl⟩;rw [hlen] at h2;rw [j0 h2];exact .mem (az (by omega) (by omega))
theorem B8_:∀ (r:pN),aU 1 r r=List.replicate r.length 0
 | []=>rfl
 | a::r=>by
  have e:aU 1 (a::r) (a::r)=(a-1*a)::aU 1 r r:=rfl;rw [e,B8_ r,List.length_cons,List.replicate_succ];congr 1;omega
theorem B9_ (k t u:Int):∀ (r s x:pN),r.length=x.length->s.length=x.length->aU (t-k*u) (aU k r s) x=aU k (aU t r x) (aU u s x)
 | [],[],[],_,_=>rfl
 | [],_::_,[],_,h2=>by simp at h2
 | _::_,_,[],h1,_=>by simp at h1
 | [],_,_::_,h1,_=>by simp at h1
 | _::_,[],_::_,_,h2=>by simp at h2
 | a::r,b::s,c::x,h1,h2=>by
  have e:aU (t-k*u) (aU k (a::r) (b::s)) (c::x)=(a-k*b-(t-k*u)*c)::aU (t-k*u) (aU k r s) x:=rfl;have e2:aU k (aU t (a::r) (c::x)) (aU u (b::s) (c::x))=(a-t*c-k*(b-u*c))::aU k (aU t r x) (aU u s x):=rfl;rw [e,e2,B9_ k t u r s x (by simpa using h1) (by simpa using h2),Int.sub_mul,Int.mul_sub,Int.mul_assoc];congr 1;omega
theorem Sp.peel {n d:Nat} {R:pM} (hW:ak n R) (hd:d<R.length) {v:pN} (h:Sp n (aG d R) v):∃ t,Sp n (aG (d+1) R) (aU t v (aD R d)):=by
 induction h with
 | zero=>exact ⟨0,by rw [jL];exact .zero⟩
 | mem h =>
  obtain ⟨i,h1,h2,rfl⟩:=h;by_cases hi:i=d;·exact ⟨1,by rw [hi,B8_,hW d hd];exact .zero⟩
  ·exact ⟨0,by rw [jL];exact .mem (az (by omega) h2)⟩
 | less k h h' ih ih' =>
  obtain ⟨t,ht⟩:=ih;obtain ⟨u,hu⟩:=ih';refine ⟨t-k*u,?_⟩;rw [B9_ k t u _ _ _ (by rw [h.len (cT hW),hW d hd]) (by rw [h'.len (cT hW),hW d hd])];exact .less k ht hu
theorem Sp.first {n d:Nat} {R:pM} {ps:Nat->Nat} (hR:a_ n R ps) (hd:d<R.length) {v:pN} (h:Sp n (aG d R) v):∃ t,v.getD (ps d) 0=t*aC R d (ps d)/\Sp n (aG (d+1) R) (aU t v (aD R d)):=by
 obtain ⟨t,ht⟩:=h.peel hR.1 hd;refine ⟨t,?_,ht⟩
 have h0:(aU t v (aD R d)).getD (ps d) 0=0:=ht.zeroCol (cT hR.1) (by
  rintro r ⟨i,h1,h2,rfl⟩
  exact hR.2.zero i h2 (ps d) (hR.2.mono d i (by omega) h2))
 rw [en t (by rw [h.len (cT hR.1),hR.1 d hd])] at h0;unfold aC;omega
theorem Sp.none {n d:Nat} {R:pM} (hW:ak n R) (hd:R.length<=d) {v:pN} (h:Sp n (aG d R) v):v=List.replicate n 0 :=
 t8_ (h.len (cT hW)) fun c _=>h.zeroCol (cT hW) (by rintro r ⟨i,h1,h2,rfl⟩;omega)
theorem G9_ {t p:Int} (hp:0<p) (h1:-p<t*p) (h2:t*p<p):t=0:=by
 rcases Int.lt_trichotomy t 0 with h | h | h
 ·have:t*p<=(-1)*p:=Int.mul_le_mul_of_nonneg_right (by omega) (by omega);omega
 ·exact h
 ·have:1*p<=t*p:=Int.mul_le_mul_of_nonneg_right (by omega) (by omega);omega
theorem Sp.small {n:Nat} {R:pM} {ps:Nat->Nat} (hR:a_ n R ps) {v:pN}:∀ (k d:Nat),R.length-d=k->Sp n (aG d R) v->(∀ i,d<=i->i<R.length->-aC R i (ps i)<v.getD (ps i) 0/\v.getD (ps i) 0<aC R i (ps i))->v=List.replicate n 0
 | 0,d,hk,h,hs=>h.none hR.1 (by omega)
 | k+1,d,hk,h,hs=>by
  obtain ⟨t,e,ht⟩:=h.first hR (by omega)
  have hsd:=hs d (oz _) (by omega);rw [e] at hsd;have h0:t=0:=G9_ (hR.2.pos d (by omega)) hsd.1 hsd.2;rw [h0,jL] at ht;exact Sp.small hR k (d+1) (by omega) ht fun i h1 h2=>hs i (by omega) h2
theorem Sp.lead {n c:Nat} {R:pM} {ps:Nat->Nat} (hR:a_ n R ps) {v:pN} (hc:v.getD c 0≠0) (hz:∀ c',c'<c->v.getD c' 0=0):∀ (k d:Nat),R.length-d=k->Sp n (aG d R) v->∃ i t,d<=i/\i<R.length/\ps i=c/\v.getD c 0=t*aC R i c
 | 0,d,hk,h=>absurd (h.zeroCol (cT hR.1) (by rintro r ⟨i,h1,h2,rfl⟩;omega)) hc
 | k+1,d,hk,h=>by
  obtain ⟨t,e,ht⟩:=h.first hR (by omega)
  rcases Nat.lt_trichotomy (ps d) c with hl | hl | hl
  ·rw [hz _ hl] at e;have hp:=hR.2.pos d (by omega);have h0:t=0:=G9_ hp (by omega) (by omega);rw [h0,jL] at ht;obtain ⟨i,t',h1,h2,h3⟩:=Sp.lead hR hc hz k (d+1) (by omega) ht;exact ⟨i,t',by omega,h2,h3⟩
  ·exact ⟨d,t,oz _,by omega,hl,by rw [<- hl];exact e⟩
  ·refine absurd (h.zeroCol (cT hR.1) ?_) hc;rintro r ⟨i,h1,h2,rfl⟩;refine hR.2.zero i h2 c ?_;by_cases hi:i=d;·rw [hi];exact hl
   ·have:=hR.2.mono d i (by omega) h2;omega
theorem ma {n:Nat} {R T:pM} {ps qs:Nat->Nat} (hR:a_ n R ps) (hT:a_ n T qs) (hs:bT n (aG 0 R) (aG 0 T)) (j:Nat) (hj:j<T.length):∃ i t,i<R.length/\ps i=qs j/\aC T j (qs j)=t*aC R i (qs j):=by
 have h:=hs.2 _ (az (Nat.zero_le j) hj);have hp:=hT.2.pos j hj;obtain ⟨i,t,-,h2,h3,h4⟩:=Sp.lead (c:=qs j) hR (show aC T j (qs j)≠0 by omega) (fun c' hc=>hT.2.zero j hj c' hc) _ 0 rfl h;exact ⟨i,t,h2,h3,h4⟩
theorem bT.symm {n:Nat} {S T:pN->Prop} (h:bT n S T):bT n T S:=⟨h.2,h.1⟩
theorem b7_ {n:Nat} {R T:pM} {ps qs:Nat->Nat} (hR:a_ n R ps) (hT:a_ n T qs) (hs:bT n (aG 0 R) (aG 0 T)):∀ (k i:Nat),i<=k->i<R.length->i<T.length/\ps i=qs i:=by
 intro k
 induction k with
 | zero =>
  intro i hi hl;obtain rfl:i=0:=by omega
  obtain ⟨j,t,h1,h2,-⟩:=ma hT hR hs.symm 0 hl;obtain ⟨j',t',Aw,Bg,-⟩:=ma hR hT hs 0 (by omega);refine ⟨by omega,?_⟩;by_cases hj:j=0;·rw [hj] at h2;exact h2.symm
  ·have a1:=hT.2.mono 0 j (by omega) h1;by_cases LO:j'=0;·rw [LO] at Bg;exact Bg
   ·have a2:=hR.2.mono 0 j' (by omega) Aw;omega
 | succ k ih =>
  intro i hi hl;by_cases tN:i<=k;·exact ih i tN hl
  ·obtain ⟨j,t,h1,h2,-⟩:=ma hT hR hs.symm i hl;have wE:i<=j:=by
    rcases Nat.lt_or_ge j i with h | h
    ·have a1:=ih j (by omega) (by omega);have a2:=hR.2.mono j i h hl;omega
    ·exact h
   obtain ⟨j',t',Aw,Bg,-⟩:=ma hR hT hs i (by omega);have Ck:i<=j':=by
    rcases Nat.lt_or_ge j' i with h | h
    ·have a1:=ih j' (by omega) Aw;have a2:=hT.2.mono j' i h (by omega);omega
    ·exact h
   refine ⟨by omega,?_⟩;have a1:qs i<=qs j:=by
    by_cases he:i=j;·rw [he];exact oz _
    ·exact Nat.le_of_lt (hT.2.mono i j (by omega) h1)
   have a2:ps i<=ps j':=by
    by_cases he:i=j';·rw [he];exact oz _
    ·exact Nat.le_of_lt (hR.2.mono i j' (by omega) Aw)
   omega
theorem Z64 {a b t u:Int} (ha:0<a) (hb:0<b) (h:a=t*b) (h':b=u*a):a=b:=by
 have ht:1<=t:=by
  rcases Int.lt_or_le t 1 with h1 | h1
  ·have:t*b<=0*b:=Int.mul_le_mul_of_nonneg_right (by omega) (by omega);omega
  ·exact h1
 have hu:1<=u:=by
  rcases Int.lt_or_le u 1 with h1 | h1
  ·have:u*a<=0*a:=Int.mul_le_mul_of_nonneg_right (by omega) (by omega);omega
  ·exact h1
 have h1:1*b<=t*b:=Int.mul_le_mul_of_nonneg_right ht (by omega);have h2:1*a<=u*a:=Int.mul_le_mul_of_nonneg_right hu (by omega);omega
theorem E4_ {r s:pN} (hl:r.length=s.length) (h:aU 1 r s=List.replicate r.length 0):r=s:=by
 apply List.ext_getElem hl;intro i h1 h2;have e:=en 1 hl.symm i;rw [h] at e;simp only [oe,oc h1,oc h2] at e;rw [oc (by simpa using h1)] at e;simp at e;omega
theorem mb {n:Nat} {R T:pM} {ps qs:Nat->Nat} (hR:a_ n R ps) (hT:a_ n T qs) (hs:bT n (aG 0 R) (aG 0 T)):R=T:=by
 have hp:=fun i (hi:i<R.length)=>b7_ hR hT hs i i (oz _) hi;have hq:=fun i (hi:i<T.length)=>b7_ hT hR hs.symm i i (oz _) hi;have hl:R.length=T.length:=by
  rcases Nat.lt_trichotomy R.length T.length with h | h | h;·have:=(hq _ h).1;omega
  ·exact h
  ·have:=(hp _ h).1;omega
 have BQ:∀ i,i<R.length->aC R i (ps i)=aC T i (ps i):=by
  intro i hi;obtain ⟨j,t,h1,h2,h3⟩:=ma hT hR hs.symm i hi;obtain ⟨j',t',Aw,Bg,h3'⟩:=ma hR hT hs i (by omega);have wE:j=i:=by
   rcases Nat.lt_trichotomy j i with h | h | h;·have:=hT.2.mono j i h (by omega);have:=(hp i hi).2;omega
   ·exact h
   ·have:=hT.2.mono i j h h1;have:=(hp i hi).2;omega
  have Ck:j'=i:=by
   rcases Nat.lt_trichotomy j' i with h | h | h;·have:=hR.2.mono j' i h hi;have:=(hp i hi).2;omega
   ·exact h
   ·have:=hR.2.mono i j' h Aw;have:=(hp i hi).2;omega
  rw [wE] at h3;rw [Ck,<- (hp i hi).2] at h3';have hpos:=hT.2.pos i (by omega);rw [<- (hp i hi).2] at hpos;exact Z64 (hR.2.pos i hi) hpos h3 h3'
 apply List.ext_getElem hl;intro i h1 h2;have e1:aD R i=R[i]:=eO (oc h1);have e2:aD T i=T[i]:=eO (oc h2);rw [<- e1,<- e2];have hlen:(aD R i).length=(aD T i).length:=by rw [hR.1 i h1,hT.1 i h2]
 refine E4_ hlen ?_;rw [hR.1 i h1];refine Sp.small hR _ 0 rfl (.less 1 (.mem (az (Nat.zero_le _) h1)) (hs.2 _ (az (Nat.zero_le _) h2))) fun j _ hj=>?_;rw [en 1 hlen.symm];show -aC R j (ps j)<aC R i (ps j)-1*aC T i (ps j)/\aC R i (ps j)-1*aC T i (ps j)<aC R j (ps j);have hpj:=hR.2.pos j hj;rcases Nat.lt_trichotomy i j with h | h | h
 ·have a1:=hR.2.red i j h hj;have a2:=hT.2.red i j h (by omega);rw [<- (hp j hj).2,<- BQ j hj] at a2;omega
 ·subst h;rw [BQ i h1] at hpj |-;omega
 ·rw [hR.2.zero i h1 (ps j) (hR.2.mono j i h h1)];have hx:=hT.2.zero i h2 (qs j) (hT.2.mono j i h h2);rw [<- (hp j hj).2] at hx;rw [hx];omega
theorem I2_ {α:Type} {xs:List α} {j:Nat} {x:α} (h:xs[j]?=some x):xs.drop j=x::xs.drop (j+1):=by
 obtain ⟨hj,rfl⟩:=od.1 h;exact List.drop_eq_getElem_cons hj
def dx (n:Int):Bool:=decide (-1000000000<=n) && decide (n<=1000000000)
theorem nu (n:Int):dx n=true↔-1000000000<=n/\n<=1000000000:=by simp [dx]
def gd (p:Int->Bool) (xs:pN):Int:=match xs.findIdx? p with | some i=>(i:Int) | none=>-1
def Z1K (g:Nat) (lb:Array Value) (p:Int->Bool) (w:World) (xs:pN):Prop :=
 ∀ W x,x∈xs->aA w W->Calls prog g (#[.int .i64 x]++lb) W fun e W'=>e=.returned (.bool (p x))/\aA W W'
theorem X8_ (xs:pN) (v:Value) (g:Nat) (lb:Array Value) (p:Int->Bool) (w:World) (h:aM w v xs) (eg:∀ args w,(callFunc g args).run prog w=.ok (.enter g args) w) (hp:Z1K g lb p w xs) :
  pI 214 #[v,.func (.func g) #[] lb] w (.int .i64 (gd p xs)):=by
 obtain ⟨a,c,rfl,h1,h2,-,hxb,hc⟩:=h.open;have HC:=oZ hc;have HPR:=oZ hp;clear hc h hxb hp;unfold maxLen at h2
 go_enter func214,ntmps214
 go_wp2
 go_loopw [8] (fun t wr=>∃ pre rest,t=.int .i64 (pre.length:Nat)/\aA w wr/\Hid (xs=pre++rest)/\Hid (∀ x∈pre,p x=false)) (fun t _=>xs.length-(intOf t).toNat)
 case atStart=>exact ⟨[],xs,rfl,aA.refl _,rfl,by intro x hx;simp at hx⟩
 case round =>
  obtain ⟨pre,rest,rfl,hE,HP,HA⟩:=hrel;have hlen:xs.length=pre.length+rest.length:=by rw [HP.out];simp
  cases rest with
  | nil =>
   have:¬ (pre.length<xs.length):=(by simp at hlen;omega);clear hlen
   go_wp2
   go_ret;have:gd p xs=-1:=by
    have:xs.findIdx? p=none:=(by rw [HP.out,List.append_nil,List.findIdx?_eq_none_iff];exact HA);unfold gd;rw [this]
   rw [this];exact ⟨rfl,hE⟩
  | cons x rest =>
   have hlt:pre.length<xs.length:=(by simp at hlen;omega);clear hlen;obtain ⟨b,off,rfl,hb,pP⟩:=HC (by rw [HP.out];simp);have g1:=hE.cell (pP pre.length x (by rw [HP.out];simp));clear pP;have hcall:=fun W he=>HPR W x (by rw [HP.out];simp) he;cases hq:p x with
   | true =>
    have HR:Hid (gd p xs=pre.length):=by
     unfold Hid gd;rw [HP.out,List.findIdx?_append,(List.findIdx?_eq_none_iff (xs:=pre)).2 HA.out,List.findIdx?_cons,hq];simp
    rw [hq] at hcall;have HCALL:=oZ hcall;clear hcall hq;go_wp2_with (go_at_fn g;refine (HCALL _ hE).mono ?_;rintro e w' ⟨rfl,sX⟩);go_ret;rw [HR.out];exact ⟨rfl,hE.trans (by assumption)⟩
   | false =>
    have BK:Hid (∀ y∈pre++[x],p y=false):=by
     intro y hy;rcases List.mem_append.1 hy with hy | hy;·exact HA y hy
     ·rw [List.mem_singleton.1 hy];exact hq
    rw [hq] at hcall;have HCALL:=oZ hcall;clear hcall hq;go_wp2_with (go_at_fn g;refine (HCALL _ hE).mono ?_;rintro e w' ⟨rfl,sX⟩);go_roundw
    case rel=>exact ⟨pre++[x],rest,by simp,hE.trans (by assumption),by unfold Hid;rw [HP.out];simp,BK⟩
    case measure=>simp [intOf];omega
theorem Z1_ (xs:pN) (v:Value) (g:Nat) (lb:Array Value) (p:Int->Bool) (w:World) (h:aM w v xs) (eg:∀ args w,(callFunc g args).run prog w=.ok (.enter g args) w) (hp:Z1K g lb p w xs) :
  pI 117 #[v,.func (.func g) #[] lb] w (.bool (xs.any p)):=by
 have hcall:=X8_ xs v g lb p w h eg hp;cases hf:xs.findIdx? p with
 | none =>
  have HR:Hid (xs.any p=false):=by
   unfold Hid;rw [List.findIdx?_eq_none_iff] at hf;simpa using hf
  unfold gd at hcall;rw [hf] at hcall;have HCALL:=oZ hcall;clear hcall hf hp h
  go_enter func117,ntmps117
  go_wp2_with (go_at_call 214;refine HCALL.mono ?_;rintro e w' ⟨rfl,sX⟩);go_ret;rw [HR.out];exact ⟨rfl,by assumption⟩
 | some i =>
  have HR:Hid (xs.any p=true):=by
   unfold Hid;rw [List.any_eq_true];obtain ⟨hi,yj,_⟩:=List.findIdx?_eq_some_iff_getElem.1 hf;exact ⟨_,List.getElem_mem hi,yj⟩
  have D0:(0:Int)<=(i:Int):=by omega
  unfold gd at hcall;rw [hf] at hcall;have HCALL:=oZ hcall;clear hcall hf hp h
  go_enter func117,ntmps117
  go_wp2_with (go_at_call 214;refine HCALL.mono ?_;rintro e w' ⟨rfl,sX⟩);go_ret;rw [HR.out];exact ⟨rfl,by assumption⟩
theorem I7_ (n:Int) (w:World):pJ 199 #[.int .i64 n] w (.bool (!dx n)):=by
 by_cases h:n<=1000000000
 ·by_cases h2:-1000000000<=n
  ·go_enter func199,ntmps199
   go_wp2
   go_ret;exact ⟨by simp [dx,h,h2];try omega,rfl⟩
  ·go_enter func199,ntmps199
   go_wp2
   go_ret;exact ⟨by simp [dx,h,h2];try omega,rfl⟩
 ·go_enter func199,ntmps199
  go_wp2
  go_ret;exact ⟨by simp [dx,h];try omega,rfl⟩
def iy (n:Nat):pM->Int
 | []=>0
 | r::l=>if 12<r.length then 4 else if r.length=n then (if r.any (fun x=>!dx x) then 4 else iy n l) else 5
def cL (xss:pM):Int:=if 12<xss.length then 4 else iy (xss.headD []).length xss
theorem nC (xss:pM) (v:Value) (w:World) (h:aw w v xss) :
  pI 100 #[v] w (.int .i64 (cL xss)):=by
 obtain ⟨a,c,rfl,h1,h2,-,hc⟩:=ae.open h;have HC:=oZ hc;unfold maxLen at h2;clear h hc;by_cases hl:12<xss.length
 ·have HT:Hid (cL xss=4):=by unfold Hid cL;rw [if_pos hl]
  have tr:(12:Int)<(xss.length:Int):=by omega
  go_enter func100,ntmps100
  go_wp2_with fail;go_ret;exact ⟨by rw [HT.out];rfl,aA.refl _⟩
 ·have HT:Hid (cL xss=iy (xss.headD []).length xss):=by unfold Hid cL;rw [if_neg hl]
  have tr:¬ (12:Int)<(xss.length:Int):=by omega
  obtain ⟨n,hn⟩:=pL ((xss.headD []).length);rw [<- hn] at HT;have HN:=oZ hn;clear hn
  go_enter func100,ntmps100
  go_wp2_with fail
  go_loopw [10] (fun t wr=>∃ j:Nat,j<=xss.length/\t=.int .i64 j/\aA w wr/\Hid (cL xss=iy n (xss.drop j))) (fun t _=>xss.length-(intOf t).toNat)
  case atStart=>exact ⟨0,by omega,rfl,aA.refl _,HT⟩
  case round =>
   obtain ⟨j,hj,rfl,hE,HD⟩:=hrel;obtain ⟨wo,rfl⟩:∃ wo:World,wo=wr:=⟨_,rfl⟩;have HE:=oZ hE;by_cases hlt:j<xss.length
   ·obtain ⟨b,off,rfl,hb,pP⟩:=HC (by intro e;simp [e] at hlt);obtain ⟨xs,hx⟩:∃ x,xss[j]?=some x:=⟨xss[j],oc hlt⟩;obtain ⟨ys,hy⟩:∃ y,xss[0]?=some y:=⟨xss[0]'(by omega),oc _⟩;have zQ:ys.length=n:=by
     rw [HN.out];cases xss with
     | nil=>simp at hlt
     | cons z t=>simp at hy;rw [hy];rfl
    obtain ⟨vx,qc,ph⟩:=pP j xs hx;obtain ⟨vy,BM,sE⟩:=pP 0 ys hy;rw [Nat.add_zero] at sE;obtain ⟨ax,cx,rfl,-,-,-,-,-⟩:=aM.open qc;obtain ⟨ay,cy,rfl,-,-,-,-,-⟩:=aM.open BM;rw [zQ] at sE;have g1:=hE.cell ph;have g2:=hE.cell sE;have HX:=oZ (aM.ext qc hE);have HDS:Hid (cL xss=if 12<xs.length then 4 else if xs.length=n then (if xs.any (fun x=>!dx x) then 4 else iy n (xss.drop (j+1))) else 5):=by
     unfold Hid;rw [HD.out,I2_ hx];rfl
    have hpos:0<xss.length:=(by omega);have HANY:=oZ (fun W he=>Z1_ xs _ 199 #[] (fun x=>!dx x) W (HX.ext (w':=W) he) (enters_of func199 (by kernel_rfl) rfl) (fun W x _ _=>(I7_ x W).mono fun _ _ ⟨he,hw⟩=>⟨he,hw▸aA.refl _⟩));clear pP hx hy zQ qc BM ph sE hE;by_cases q1:12<xs.length
    ·have q2:(12:Int)<(xs.length:Int):=(by omega);rw [if_pos q1] at HDS;go_wp2_with fail;go_ret;exact ⟨by rw [HDS.out];rfl,HE⟩
    ·have q2:¬ (12:Int)<(xs.length:Int):=(by omega);rw [if_neg q1] at HDS;by_cases q3:xs.length=n
     ·rw [if_pos q3] at HDS;have q4:((xs.length:Int) != (n:Int))=false:=(by simp [q3]);cases wJ:xs.any (fun x=>!dx x) with
      | true =>
       rw [wJ,if_pos rfl] at HDS;rw [wJ] at HANY;clear q3 wJ;go_wp2_with fail;refine q_ (HANY _ (aA.refl _)) (aA.trans HE) ?_;intro w1 HE1;clear HANY;go_wp2_with fail;go_ret;exact ⟨by rw [HDS.out];rfl,HE1⟩
      | false =>
       rw [wJ,if_neg Bool.false_ne_true] at HDS;rw [wJ] at HANY;clear q3 wJ;go_wp2_with fail;refine q_ (HANY _ (aA.refl _)) (aA.trans HE) ?_;intro w1 HE1;clear HANY;go_wp2_with fail;go_roundw
       case rel=>exact ⟨j+1,by omega,by go_num,HE1,HDS⟩
       case measure=>simp [intOf];omega
     ·rw [if_neg q3] at HDS;have q4:((xs.length:Int) != (n:Int))=true:=(by simp;omega);clear q3;go_wp2_with fail;go_ret;exact ⟨by rw [HDS.out];rfl,HE⟩
   ·obtain rfl:j=xss.length:=(by omega);have HF:Hid (cL xss=0):=(by unfold Hid;rw [HD.out,List.drop_length];rfl);clear HD hE;go_wp2_with fail;go_ret;exact ⟨by rw [HF.out];rfl,HE⟩
theorem N0_ (xs ys:pN) (u v:Value) (w:World) (h:aM w u xs) (k:aM w v ys) :
  pI 129 #[u,v] w (.bool (xs == ys)):=by
 obtain ⟨a,c,rfl,h1,h2,-,hxb,hc⟩:=h.open;obtain ⟨a',c',rfl,k1,k2,-,hyb,kc⟩:=k.open;have HC:=oZ hc;have KC:=oZ kc;clear hc kc h k hxb hyb;unfold maxLen at h2 k2;by_cases hl:xs.length=ys.length
 ·have hn:((xs.length:Int) != (ys.length:Int))=false:=by simp [hl]
  have rq:xs.length<=ys.length:=by omega
  have yo:ys.length<=xs.length:=by omega
  have HL:=oZ hl;clear hl
  go_enter func129,ntmps129
  go_wp2
  go_loopw [13] (fun t wr=>∃ j:Nat,j<=xs.length/\t=.int .i64 j/\aA w wr/\Hid (xs.take j=ys.take j)) (fun t _=>xs.length-(intOf t).toNat)
  case atStart=>exact ⟨0,by omega,rfl,aA.refl _,rfl⟩
  case round =>
   obtain ⟨j,hj,rfl,hE,HT⟩:=hrel;by_cases hlt:j<xs.length
   ·obtain ⟨b,off,rfl,hb,pP⟩:=HC (by intro e;simp [e] at hlt);obtain ⟨b',off',rfl,ql,pq⟩:=KC.out (by intro e;simp [e] at rq;simp [rq] at hlt);obtain ⟨x,hx⟩:∃ x,xs[j]?=some x:=⟨xs[j],oc hlt⟩;obtain ⟨y,hy⟩:∃ y,ys[j]?=some y:=⟨ys[j]'(by omega),oc _⟩;have g1:=hE.cell (pP j x hx);have g2:=hE.cell (pq j y hy);have q1:(j:Int)<(xs.length:Int):=(by omega);have q2:(j:Int)<(ys.length:Int):=(by omega);have HX:=oZ hx;have HY:=oZ hy;clear pP pq hx hy;by_cases hxy:x=y
    ·have hb:(x != y)=false:=(by simp [hxy]);have A7:Hid (xs.take (j+1)=ys.take (j+1)):=by
      unfold Hid;rw [ou,ou,HX.out,HY.out,HT.out,hxy]
     clear hxy
     go_wp2
     go_quiet (fail)
     go_wp2
     go_roundw
     case rel=>exact ⟨j+1,by omega,by go_num,aA.draws hE _,A7⟩
     case measure=>simp [intOf];omega
    ·have hb:(x != y)=true:=(by simp [hxy]);have HF:Hid ((xs == ys)=false):=by
      unfold Hid;rw [beq_eq_false_iff_ne];intro e;have e1:=HX.out;have e2:=HY.out;rw [e,e2] at e1;exact hxy (by simpa using e1.symm)
     clear hxy
     go_wp2
     go_quiet (fail)
     go_wp2
     go_ret;rw [HF.out];exact ⟨rfl,aA.draws hE _⟩
   ·have hge:xs.length<=j:=(by omega);have A0:Hid ((xs == ys)=true):=by
     unfold Hid;have e:=HT.out;rw [List.take_of_length_le (by omega),List.take_of_length_le (by omega)] at e;simp [e]
    go_wp2
    go_ret;rw [A0.out];exact ⟨rfl,hE⟩
 ·have hn:((xs.length:Int) != (ys.length:Int))=true:=by simp;omega
  have HF:Hid ((xs == ys)=false):=by
   unfold Hid;rw [beq_eq_false_iff_ne];intro e;exact hl (by rw [e])
  clear hl
  go_enter func129,ntmps129
  go_wp2
  go_ret;rw [HF.out];exact ⟨rfl,aA.refl _⟩
end Go.Proofs.YtoonaddcfakamaaGreatDoor
