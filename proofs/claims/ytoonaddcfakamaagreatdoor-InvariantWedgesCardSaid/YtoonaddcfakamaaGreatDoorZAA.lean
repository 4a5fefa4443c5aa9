import Derived.WalkKit
import Derived.Deep.QuietTactic
import Derived.BigQuiet
import Derived.Deep.LoopGhost
import Derived.Outline
import Derived.Lib.Hide
import Derived.Deep.DeepFit
import Derived.Deep.DeepMust
import Derived.Shelf.Abstract
import Derived.Maps.AppendAt
import Derived.Test.YtoonaddcfakamaaGreatDoorRows
set_option linter.unusedVariables false
set_option linter.unusedSimpArgs false
namespace Go.Proofs.YtoonaddcfakamaaGreatDoor
open Go.RowKit Go.Proofs.Tryz
theorem pK {α:Sort _} (e:α):∃ x,e=x:=⟨_,rfl⟩
theorem pL {α:Sort _} (e:α):∃ x,x=e:=⟨_,rfl⟩
abbrev pN:=List Int
abbrev pM:=List (List Int)
theorem oc {α:Type _} {l:List α} {i:Nat} (h:i<l.length):l[i]?=some l[i]:=List.getElem?_eq_getElem h
theorem od {α:Type _} {i:Nat} {a:α} {l:List α}:l[i]?=some a↔∃ h:i<l.length,l[i]=a:=List.getElem?_eq_some_iff
theorem oe {α:Type _} {l:List α} {i:Nat} {a:α}:l.getD i a=l[i]?.getD a:=List.getD_eq_getElem?_getD
theorem og {α:Type _} {l:List α} {i:Nat} {a:α} (h:l[i]?=some a):a∈l:=List.mem_of_getElem? h
theorem oh {α:Type _} {β:Type _} {f:α->β} {l:List α} {i:Nat}:(List.map f l)[i]?=Option.map f l[i]?:=List.getElem?_map
theorem om {α:Type _} {i:Nat} {l:List α}:(List.take i l).length=min i l.length:=List.length_take
theorem ou {α:Type _} {l:List α} {i:Nat}:List.take (i+1) l=List.take i l++l[i]?.toList:=List.take_add_one
theorem ov {n m k:Nat} (h:n<m) (g:m<=k):n<k:=Nat.lt_of_lt_of_le h g
theorem ow {n m k:Nat} (h:n<=m) (g:m<=k):n<=k:=Nat.le_trans h g
theorem oz (n:Nat):n<=n:=Nat.le_refl n
theorem o4 {α:Type _} {l:List α} {i:Nat} (h:l.length<=i):l[i]?=none:=List.getElem?_eq_none h
theorem o5 {α:Type _} {a b:α} (h:some a=some b):a=b:=Option.some.inj h
theorem o6 {α:Type _} {l₁ l₂:List α} {i:Nat} (h:i<l₁.length):(l₁++l₂)[i]?=l₁[i]?:=List.getElem?_append_left h
theorem o8 {α:Type _} {l₁ l₂:List α} {i:Nat} (h:l₁.length<=i):(l₁++l₂)[i]?=l₂[i-l₁.length]?:=List.getElem?_append_right h
theorem o9 {α:Type _} {a:α} {i:Nat} {l:List α}:(a::l)[i+1]?=l[i]?:=List.getElem?_cons_succ
theorem o_ {α:Type _} {a:α} {l:List α}:(a::l)[0]?=some a:=List.getElem?_cons_zero
theorem pC {α:Type _} {l:List α} {i:Nat}:l.toArray[i]?=l[i]?:=List.getElem?_toArray
theorem pD {p:Prop} [Decidable p] (h:¬p):decide p=false:=decide_eq_false h
theorem pE {p:Prop} [Decidable p] (h:p):decide p=true:=decide_eq_true h
theorem pF {α:Type _} {l:List α} {i j:Nat}:(List.drop i l)[j]?=l[i+j]?:=List.getElem?_drop
theorem pG {α:Type _} {l m:List α}:(l++m).length=l.length+m.length:=List.length_append
theorem pH {α:Type _} {l:List α} {i j:Nat} {a:α}:(l.set i a)[j]?=if i=j then if i<l.length then some a else none else l[j]?:=List.getElem?_set
theorem oZ {p:Prop} (h:p):Hid p:=Lib.hid h
abbrev aA (w w':World):Prop:=Below w.heap.size w w'
theorem aA.refl (w:World):aA w w:=Below.refl _ _
theorem aA.trans {a b c:World} (h:aA a b) (k:aA b c):aA a c:=Below.trans h (Below.mono k h.size)
theorem aA.alloc (w:World) (o:Obj):aA w (w.alloc o):=Below.alloc (Below.refl _ _) (oz _) o
theorem aA.drew (w:World):aA w w.drew:=Below.drew (Below.refl _ _)
theorem aA.drewN (w:World) (n:Nat):aA w (w.drewN n):=⟨rfl,rfl,rfl,oz _,fun _ _=>rfl⟩
theorem aA.draws {w w':World} (h:aA w w') (n:Nat):aA w (w'.drewN n):=h.trans (aA.drewN w' n)
theorem A2_ {w:World} {a:Addr} {v:Value} (h:w.cell? a=some v):a.block<w.heap.size:=World.block_lt_of_cell? w a h
theorem aA.cell {w w':World} (h:aA w w') {a:Addr} {v:Value} (hc:w.cell? a=some v):w'.cell? a=some v:=(Below.cell h (A2_ hc)).trans hc
def dN (w:World) (v:Value) (n:Nat) (cs:List Value):Prop :=
 ∃ (a:Option Addr) (cap:Nat),v=.slice a n cap/\n<=cap/\cap<=maxLen/\(a=none->cap=0) /\
  (cs≠[]->∃ b off,a=some ⟨b,off,none⟩/\b<w.heap.size/\∀ (j:Nat) u,cs[j]?=some u->w.cell? ⟨b,off+j,none⟩=some u)
theorem dN.ext {w w':World} {v:Value} {n:Nat} {cs:List Value} (h:dN w v n cs) (he:aA w w'):dN w' v n cs:=by
 obtain ⟨a,cap,rfl,h1,h2,h3,h4⟩:=h;refine ⟨a,cap,rfl,h1,h2,h3,fun hn=>?_⟩;obtain ⟨b,off,ha,hb,hc⟩:=h4 hn;exact ⟨b,off,ha,ov hb he.size,fun j u hu=>he.cell (hc j u hu)⟩
def aN {α:Type} (k:Nat) (R:World->List Value->α->Prop) (w:World) (v:Value) (xs:List α):Prop :=
 ∃ us:List (List Value),us.length=xs.length/\(∀ u∈us,u.length=k)/\dN w v xs.length us.flatten /\
  ∀ (j:Nat) u x,us[j]?=some u->xs[j]?=some x->R w u x
def iE {α:Type} (R:World->List Value->α->Prop):Prop:=∀ w w' u x,aA w w'->R w u x->R w' u x
theorem aN.ext {α:Type} {k:Nat} {R:World->List Value->α->Prop} (hR:iE R) {w w':World} {v:Value} {xs:List α} (h:aN k R w v xs) (he:aA w w'):aN k R w' v xs:=by
 obtain ⟨us,h1,h2,h3,h4⟩:=h;exact ⟨us,h1,h2,h3.ext he,fun j u x hu hx=>hR _ _ _ _ he (h4 j u x hu hx)⟩
theorem X1_ {k:Nat}:∀ (us:List (List Value)) (j i:Nat) (u:List Value),(∀ u∈us,u.length=k)->us[j]?=some u->i<k->us.flatten[j*k+i]?=u[i]?
 | [],j,i,u,_,h,_=>by simp at h
 | x::us,j,i,u,hk,h,hi=>by
  have hx:x.length=k:=hk x (by simp);cases j with
  | zero =>
   simp at h;subst h;rw [List.flatten_cons,o6 (by omega)];congr 1;omega
  | succ j =>
   simp at h;rw [List.flatten_cons,o8 (by rw [hx,Nat.succ_mul];omega)];rw [show (j+1)*k+i-x.length=j*k+i by rw [hx,Nat.succ_mul];omega];exact X1_ us j i u (fun u hu=>hk u (by simp [hu])) h hi
theorem aN.open {α:Type} {k:Nat} {R:World->List Value->α->Prop} {w:World} {v:Value} {xs:List α} (h:aN k R w v xs) :
  ∃ (a:Option Addr) (cap:Nat),v=.slice a xs.length cap/\xs.length<=cap/\cap<=maxLen/\(a=none->cap=0) /\
   (0<k->xs≠[]->∃ b off,a=some ⟨b,off,none⟩/\b<w.heap.size /\
    ∀ (j:Nat) x,xs[j]?=some x->∃ u:List Value,u.length=k/\R w u x/\∀ i,i<k->w.cell? ⟨b,off+(j*k+i),none⟩=u[i]?):=by
 obtain ⟨us,h1,h2,⟨a,cap,rfl,h3,h4,h5,h6⟩,h7⟩:=h;refine ⟨a,cap,rfl,h3,h4,h5,fun hk hx=>?_⟩;have hne:us.flatten≠[]:=by
  cases us with
  | nil=>cases xs with
   | nil=>exact absurd rfl hx
   | cons=>simp at h1
  | cons u us =>
   have:=h2 u (by simp);cases u with
   | nil=>simp at this;omega
   | cons=>simp
 obtain ⟨b,off,ha,hb,hc⟩:=h6 hne;refine ⟨b,off,ha,hb,fun j x hj=>?_⟩;have hlt:j<us.length:=by rw [h1];exact (od.1 hj).1
 refine ⟨us[j],h2 _ (List.getElem_mem _),h7 j _ x (by simp [hlt]) hj,fun i hi=>?_⟩;have hl:=h2 us[j] (List.getElem_mem _);have hg:=X1_ us j i us[j] h2 (by simp [hlt]) hi;have hs:(us[j])[i]?=some (us[j])[i]:=by simp [hl,hi]
 rw [hs];exact hc _ _ (hg.trans hs)
def intR (_:World) (u:List Value) (x:Int):Prop:=u=[.int .i64 x]/\-9223372036854775808<=x/\x<=9223372036854775807
theorem intR.mono:iE intR:=fun _ _ _ _ _ h=>h
abbrev aM (w:World) (v:Value) (xs:pN):Prop:=aN 1 intR w v xs
def ae {α:Type} (R:World->Value->α->Prop) (w:World) (u:List Value) (x:α):Prop:=∃ v,u=[v]/\R w v x
theorem ae.mono {α:Type} {R:World->Value->α->Prop} (h:∀ w w' v x,aA w w'->R w v x->R w' v x):iE (ae R) :=
 fun w w' _ x he ⟨v,hu,hv⟩=>⟨v,hu,h w w' v x he hv⟩
abbrev rowR:World->List Value->List Int->Prop:=ae aM
theorem rowR.mono:iE rowR:=ae.mono fun _ _ _ _ he h=>aN.ext intR.mono h he
abbrev aw (w:World) (v:Value) (xs:pM):Prop:=aN 1 rowR w v xs
theorem aM.ext {w w':World} {v:Value} {xs:pN} (h:aM w v xs) (he:aA w w'):aM w' v xs:=aN.ext intR.mono h he
theorem aw.ext {w w':World} {v:Value} {xs:pM} (h:aw w v xs) (he:aA w w'):aw w' v xs:=aN.ext rowR.mono h he
theorem aM.open {w:World} {v:Value} {xs:pN} (h:aM w v xs) :
  ∃ (a:Option Addr) (cap:Nat),v=.slice a xs.length cap/\xs.length<=cap/\cap<=maxLen/\(a=none->cap=0)/\(∀ x∈xs,-9223372036854775808<=x/\x<=9223372036854775807) /\
   (xs≠[]->∃ b off,a=some ⟨b,off,none⟩/\b<w.heap.size/\∀ (j:Nat) x,xs[j]?=some x->w.cell? ⟨b,off+j,none⟩=some (.int .i64 x)):=by
 have hall:∀ x∈xs,-9223372036854775808<=x/\x<=9223372036854775807:=by
  obtain ⟨us,h1,_,_,h7⟩:=h;intro x hx;obtain ⟨j,hj⟩:=List.getElem?_of_mem hx;have hlt:j<us.length:=by rw [h1];exact (od.1 hj).1
  exact (h7 j us[j] x (by simp [hlt]) hj).2
 obtain ⟨a,cap,hv,h1,h2,h3,h4⟩:=aN.open h;refine ⟨a,cap,hv,h1,h2,h3,hall,fun hx=>?_⟩;obtain ⟨b,off,ha,hb,hc⟩:=h4 (by omega) hx;refine ⟨b,off,ha,hb,fun j x hj=>?_⟩;obtain ⟨u,_,hr,pP⟩:=hc j x hj;have:=pP 0 (by omega);rw [hr.1] at this;simpa using this
theorem aM.cells {w:World} {a:Option Addr} {n cap:Nat} {xs:pN} (h:aM w (.slice a n cap) xs) :
  n=xs.length/\n<=cap/\cap<=maxLen/\(∀ x∈xs,-9223372036854775808<=x/\x<=9223372036854775807) /\
   (xs≠[]->∃ b off,a=some ⟨b,off,none⟩/\b<w.heap.size/\∀ (j:Nat) x,xs[j]?=some x->w.cell? ⟨b,off+j,none⟩=some (.int .i64 x)):=by
 obtain ⟨a',c',hv,h1,h2,_,h4,h5⟩:=h.open;simp only [Value.slice.injEq] at hv;obtain ⟨rfl,rfl,rfl⟩:=hv;exact ⟨rfl,h1,h2,h4,h5⟩
theorem ae.open {α:Type} {R:World->Value->α->Prop} {w:World} {v:Value} {xs:List α} (h:aN 1 (ae R) w v xs) :
  ∃ (a:Option Addr) (cap:Nat),v=.slice a xs.length cap/\xs.length<=cap/\cap<=maxLen/\(a=none->cap=0) /\
   (xs≠[]->∃ b off,a=some ⟨b,off,none⟩/\b<w.heap.size/\∀ (j:Nat) x,xs[j]?=some x->∃ u,R w u x/\w.cell? ⟨b,off+j,none⟩=some u):=by
 obtain ⟨a,cap,hv,h1,h2,h3,h4⟩:=aN.open h;refine ⟨a,cap,hv,h1,h2,h3,fun hx=>?_⟩;obtain ⟨b,off,ha,hb,hc⟩:=h4 (by omega) hx;refine ⟨b,off,ha,hb,fun j x hj=>?_⟩;obtain ⟨u,_,⟨v',rfl,tU⟩,pP⟩:=hc j x hj;have:=pP 0 (by omega);exact ⟨v',tU,by simpa using this⟩
theorem dN.of_owns {w:World} {base:Nat} {e:TypeId} {size:Nat} {v:Value} {n:Nat} {cs:List Value} (h:w.ownsRow base e size v n cs):dN w v n cs:=by
 have hc:=fun g hg=>h.cells (g:=g) hg;obtain ⟨hl,h⟩:=h;rcases h with ⟨rfl,rfl⟩ | ⟨g,cap,cur,rfl,hb,hg,h1,h2,h3,h4⟩
 ·exact ⟨none,0,rfl,oz _,Nat.zero_le _,fun _=>rfl,fun hne=>absurd (by simpa using hl) hne⟩
 ·refine ⟨_,cap,rfl,h1,h2,fun h=>by simp at h,fun hne=>⟨g,0,rfl,(Array.getElem?_eq_some_iff.1 hg).1,fun j u hu=>?_⟩⟩;have:=hc g (by simp [Value.ownBlock]) j u hu;rw [show (⟨g,0,none⟩:Addr).add j=⟨g,0+j,none⟩ by unfold Addr.add;split <;> simp_all] at this;exact this
theorem eR {α:Type} (f:α->Value) (xs:List α):(xs.map fun x=>[f x]).flatten=xs.map f:=by
 induction xs with
 | nil=>rfl
 | cons x xs ih=>simp [ih]
theorem dN.lit (w:World) (us:List Value) (n:Nat) (T:TypeId) (hn:n<=maxLen):dN (w.alloc (.cells us.toArray T)) (.slice (some ⟨w.heap.size,0,none⟩) n n) n us:=by
 refine ⟨_,n,rfl,oz _,hn,fun h=>by simp at h,fun _=>⟨w.heap.size,0,rfl,by simp,fun j u hu=>?_⟩⟩;rw [Nat.zero_add,World.cell?_alloc_new];simpa using hu
theorem aN.lit {α:Type} {R:World->Value->α->Prop} (hR:∀ w w' v x,aA w w'->R w v x->R w' v x) (w:World) (us:List Value) (xs:List α) (T:TypeId) (hl:us.length=xs.length) (hn:xs.length<=maxLen)
  (h:∀ (j:Nat) u x,us[j]?=some u->xs[j]?=some x->R w u x):aN 1 (ae R) (w.alloc (.cells us.toArray T)) (.slice (some ⟨w.heap.size,0,none⟩) xs.length xs.length) xs:=by
 refine ⟨us.map fun u=>[u],by simpa using hl,by simp,?_,?_⟩
 ·rw [eR (fun u=>u)];simpa using dN.lit w us xs.length T hn
 ·intro j u x hu hx;rw [oh] at hu;cases hj:us[j]? with
  | none=>simp [hj] at hu
  | some v=>simp [hj] at hu;exact ⟨v,hu.symm,hR _ _ _ _ (aA.alloc _ _) (h j v x hj hx)⟩
theorem aM.lit (w:World) (xs:pN) (T:TypeId) (hn:xs.length<=maxLen) (hb:∀ x∈xs,-9223372036854775808<=x/\x<=9223372036854775807) :
  aM (w.alloc (.cells (xs.map (Value.int .i64)).toArray T)) (.slice (some ⟨w.heap.size,0,none⟩) xs.length xs.length) xs:=by
 refine ⟨xs.map fun x=>[Value.int .i64 x],by simp,by simp,?_,?_⟩
 ·rw [eR];exact dN.lit w _ xs.length T hn
 ·intro j u x hu hx;simp only [oh,hx,Option.map_some,Option.some.injEq] at hu;exact ⟨hu.symm,hb x (og hx)⟩
theorem Z40 (a m:Int) (hm:0<m):-m<a.tmod m/\a.tmod m<m:=by
 rcases Int.le_total 0 a with h | h
 ·rw [Int.tmod_eq_emod_of_nonneg h];have h1:=Int.emod_nonneg a (show m≠0 by omega);have h2:=Int.emod_lt_of_pos a hm;omega
 ·obtain ⟨b,rfl⟩:∃ b,a=-b:=⟨-a,by omega⟩;rw [Int.neg_tmod,Int.tmod_eq_emod_of_nonneg (show 0<=b by omega)];have h1:=Int.emod_nonneg b (show m≠0 by omega);have h2:=Int.emod_lt_of_pos b hm;omega
theorem n2_ (k:IntKind) (n:Nat):(madeCells #[Value.int k 0] n).toList=(List.replicate n (0:Int)).map (Value.int k) :=
 (toList_madeCells_one _ _).trans (by simp)
theorem aM.of_owns {w:World} {base:Nat} {e:TypeId} {v:Value} {xs:pN} (h:w.ownsRow base e 1 v xs.length (xs.map (Value.int .i64))) (hb:∀ x∈xs,-9223372036854775808<=x/\x<=9223372036854775807):aM w v xs:=by
 refine ⟨xs.map fun x=>[Value.int .i64 x],by simp,by simp,?_,?_⟩
 ·have:=dN.of_owns h
  rwa [eR]
 ·intro j u x hu hx;simp only [oh,hx,Option.map_some,Option.some.injEq] at hu;exact ⟨hu.symm,hb x (og hx)⟩
theorem et {w w':World} {base:Nat} {e:TypeId} {size:Nat} {v:Value} {n:Nat} {xs:List Value} (h:w.ownsRow base e size v n xs) (he:aA w w'):w'.ownsRow base e size v n xs:=by
 refine h.kept (row:=none) ⟨he.os,he.tape,he.output,he.size,fun k hk _=>he.block k hk⟩ ?_;cases hv:v.ownBlock <;> simp
theorem eu {w:World} {base:Nat} {e:TypeId} {size:Nat} {v:Value} {n:Nat} {xs:List Value} (h:w.ownsRow base e size v n xs) (hn:0<n):∃ g cap,v=.slice (some ⟨g,0,none⟩) n cap/\base<=g/\g<w.heap.size/\n<=cap/\cap<=maxLen:=by
 rcases h.2 with ⟨_,rfl⟩ | ⟨g,cap,cur,rfl,hg,hh,h1,h2,_⟩
 ·omega
 ·exact ⟨g,cap,rfl,hg,(Array.getElem?_eq_some_iff.1 hh).1,h1,h2⟩
def bj (w:World) (o:Option Nat) (P:World->Prop):Prop:=∀ w',w.grownBy w' o->P w'
theorem bj.now {w:World} {o:Option Nat} {P:World->Prop} (h:bj w o P):P w:=h w (World.grownBy.refl w o)
theorem gO {a b c:World} {o:Option Nat} (h:a.grownBy b o) (k:b.grownBy c o):a.grownBy c o :=
 ⟨k.os.trans h.os,k.tape.trans h.tape,k.output.trans h.output,ow h.size k.size,fun i hi ho=>(k.block i (ov hi h.size) ho).trans (h.block i hi ho)⟩
theorem aA.grown {w w':World} (h:aA w w') (o:Option Nat):w.grownBy w' o:=⟨h.os,h.tape,h.output,h.size,fun k hk _=>h.block k hk⟩
theorem bj.ext {w w':World} {o:Option Nat} {P:World->Prop} (h:bj w o P) (he:aA w w'):bj w' o P:=fun _ hg=>h _ (gO (he.grown o) hg)
theorem bj.append {w w1:World} {v v':Value} {P:World->Prop} (h:bj w v.ownBlock P) (hg:w.grownBy w1 v.ownBlock) (qb:v'.ownBlock=v.ownBlock\/v'.ownBlock=some w.heap.size):bj w1 v'.ownBlock P:=by
 intro w2 h2;refine h w2 ⟨h2.os.trans hg.os,h2.tape.trans hg.tape,h2.output.trans hg.output,ow hg.size h2.size,fun i hi ho=>?_⟩;refine (h2.block i (ov hi hg.size) ?_).trans (hg.block i hi ho);rcases qb with e | e;·rw [e];exact ho
 ·rw [e];intro e';cases e';omega
theorem bj.mono {w:World} {o:Option Nat} {P P':World->Prop} (h:bj w o P) (hp:∀ w,P w->P' w):bj w o P':=fun w' hg=>hp _ (h w' hg)
theorem bj.owns {w:World} {o:Option Nat} {base:Nat} {e:TypeId} {size:Nat} {v:Value} {n:Nat} {xs:List Value} (h:w.ownsRow base e size v n xs) (hne:v.ownBlock=none\/v.ownBlock≠o):bj w o fun w=>w.ownsRow base e size v n xs :=
 fun _ hg=>h.kept hg hne
theorem bj.below {w0 w:World} {o:Option Nat} {P:World->Prop} (hP:∀ w',aA w0 w'->P w') (he:aA w0 w) (ho:∀ k,o=some k->w0.heap.size<=k):bj w o P:=by
 intro w' hg;refine hP w' (Below.trans he (c:=w') ⟨hg.os,hg.tape,hg.output,hg.size,fun k hk=>hg.block k (ov hk he.size) ?_⟩);intro e;have:=ho k e.symm;omega
def ai {α:Type} (w:World) (base:Nat) (e:TypeId) (k:Nat) (v:Value) (R:World->List Value->α->Prop) (xs:List α):Prop :=
 ∃ us:List (List Value),us.length=xs.length/\(∀ u∈us,u.length=k)/\w.ownsRow base e k v xs.length us.flatten /\
  ∀ (j:Nat) u x,us[j]?=some u->xs[j]?=some x->bj w v.ownBlock fun w=>R w u x
section
variable {α:Type} {w w':World} {base:Nat} {e:TypeId} {k:Nat} {v:Value} {R:World->List Value->α->Prop} {xs:List α}
theorem ai.nil (w:World) (base:Nat) (e:TypeId) (k:Nat) (R:World->List Value->α->Prop):ai w base e k (.slice none 0 0) R [] :=
 ⟨[],rfl,by simp,by simpa using World.ownsRow_nil w base e k,by simp⟩
theorem ai.ext (h:ai w base e k v R xs) (he:aA w w'):ai w' base e k v R xs:=by
 obtain ⟨us,h1,h2,h3,h4⟩:=h;exact ⟨us,h1,h2,et h3 he,fun j u x hu hx=>(h4 j u x hu hx).ext he⟩
theorem ai.list (h:ai w base e k v R xs):aN k R w v xs:=by
 obtain ⟨us,h1,h2,h3,h4⟩:=h;exact ⟨us,h1,h2,dN.of_owns h3,fun j u x hu hx=>(h4 j u x hu hx).now⟩
theorem ai.lt (h:ai w base e k v R xs):∀ b,v.ownBlock=some b->base<=b/\b<w.heap.size:=by
 obtain ⟨us,h1,h2,h3,h4⟩:=h;exact h3.lt
theorem ai.mono {R':World->List Value->α->Prop} (h:ai w base e k v R xs) (hR:∀ w u x,R w u x->R' w u x):ai w base e k v R' xs:=by
 obtain ⟨us,h1,h2,h3,h4⟩:=h;exact ⟨us,h1,h2,h3,fun j u x hu hx=>(h4 j u x hu hx).mono fun w=>hR w u x⟩
theorem ai.made (w:World) (cur:Array Value) (cap:Nat) (hb:base<=w.heap.size) (hm:cap<=maxLen) (hs:cur.size=cap*k):ai (w.alloc (.cells cur e)) base e k (.slice (some ⟨w.heap.size,0,none⟩) 0 cap) R [] :=
 ⟨[],rfl,by simp,by simpa using World.ownsRow_made w cur cap hb hm hs,by simp⟩
theorem ai.lit (w:World) (us:List (List Value)) (xs:List α) (hb:base<=w.heap.size) (hl:us.length=xs.length) (hk:∀ u∈us,u.length=k) (hn:xs.length<=maxLen) (h:∀ (j:Nat) u x,us[j]?=some u->xs[j]?=some x->∀ w',aA w w'->R w' u x) :
  ai (w.alloc (.cells us.flatten.toArray e)) base e k (.slice (some ⟨w.heap.size,0,none⟩) xs.length xs.length) R xs:=by
 have yv:us.flatten.length=xs.length*k:=by
  rw [<- hl];clear hl hn h
  induction us with
  | nil=>simp
  | cons u us ih=>rw [List.flatten_cons,pG,hk u (by simp),ih (fun u hu=>hk u (by simp [hu])),List.length_cons,Nat.succ_mul];omega
 refine ⟨us,hl,hk,?_,?_⟩
 ·have:=World.ownsRow_lit (e:=e) (size:=k) w us.flatten.toArray xs.length hb hn (by simpa using yv);simpa using this
 ·intro j u x hu hx;refine bj.below (w0:=w) (fun w' he=>h j u x hu hx w' he) (aA.alloc _ _) ?_;intro b hb;simp [Value.ownBlock] at hb;omega
end
theorem N1_ {α:Type} (l:List (List α)) (x:List α):(l++[x]).flatten=l.flatten++x:=by simp
theorem iR {P:Program} (w:World) {o:Oper} {a:Act} {K:Act->World->Prop} {Q:Exit->Act->World->Prop} (s x:Operand) (t:TypeId)
  (ho:o.op=.call { callee:=.builtin .append,args:=#[s,x],argTypes:=#[t,t] })
  (base:Nat) (e:TypeId) (i:TypeInfo) (z:Value) (size bytes:Nat) (ht:P.underlying t=some (.slice e)) (hi:P.info? e=some i) (hz:i.zero=some z)
  (pZ:i.size=size) (qK:i.bytes=bytes) (xF:z.cells.size=size) (hsz:0<size)
  (v:Value) (n:Nat) (xs:List Value) (hs:a.eval s=v) (hown:w.ownsRow base e size v n xs)
  (ad:Addr) (m c:Nat) (news:List Value) (hx:a.eval x=.slice (some ad) m c) (hl:news.length=m*size) (vk:∀ (j:Nat) u,news[j]?=some u->w.cell? (ad.add j)=some u) (h1:∀ u∈news,u.oneCell'=true)
  (MP:n+m<=maxLen) (qA:(n+m)*bytes<=140737488355328) (pX:base<=w.heap.size)
  (h:∀ v' w',w'.ownsRow base e size v' (n+m) (xs++news)->w.grownBy w' v.ownBlock->(v'=.slice none 0 0↔v=.slice none 0 0/\m=0)->(v'.ownBlock=v.ownBlock\/v'.ownBlock=some w.heap.size)->K (a.put o.dst v') w') :
  o.wp P a w K Q:=by
 obtain ⟨v',w',hr,h2,h3,h4,h5⟩:=run_append_own_at (P:=P) w base t o.type e i z size bytes ht hi hz pZ qK xF hsz v n xs hown ad m c news hl vk h1 MP qA pX;unfold Oper.wp execOp;simp only [ho,resolve,invoke,builtin,Sem.run_bind,Sem.run_pure,Result.andThen_ok,List.map_toArray,List.map_cons,List.map_nil,hs,hx,hr];exact h v' w' h2 h3 h4 h5
theorem M6_ {P:Program} {α:Type} (w:World) {o:Oper} {a:Act} {K:Act->World->Prop} {Q:Exit->Act->World->Prop}
  (s x:Operand) (t:TypeId) (ho:o.op=Op.call { callee:=Callee.builtin Builtin.append,args:=#[s,x],argTypes:=#[t,t] }) (base:Nat) (e:TypeId) (z:Value) (k bytes:Nat)
  (ht:P.underlying t=some (TypeDesc.slice e)) (qG:(P.info? e).map (fun i=>(i.zero,i.size,i.bytes))=some (some z,k,bytes)) (xF:z.cells.size=k) (hk:0<k)
  (v:Value) (R:World->List Value->α->Prop) (xs:List α) (y:α) (u:Array Value) (T:TypeId) (hs:a.eval s=v) (hB:ai w base e k v R xs)
  (hx:a.eval x=.slice (some ⟨w.heap.size,0,none⟩) 1 1) (hu:u.size=k) (h1:∀ z∈u.toList,z.oneCell'=true) (hR:bj w v.ownBlock fun w=>R w u.toList y)
  (hlen:xs.length<100000000000) (qA:bytes<=1000) (pX:base<=w.heap.size)
  (h:∀ v' w',ai w' base e k v' R (xs++[y])->w.grownBy w' v.ownBlock->Below base w w'->w.heap.size<w'.heap.size->(∀ Pr:World->Prop,bj w v.ownBlock Pr->bj w' v'.ownBlock Pr)->K (a.put o.dst v') w') :
  o.wp P a (w.alloc (.cells u T)) K Q:=by
 obtain ⟨i,hi,hz,pZ,qK⟩:=info_parts qG;obtain ⟨us,b1,b2,b3,b4⟩:=hB;have py:∀ j,(⟨w.heap.size,0,none⟩:Addr).add j=⟨w.heap.size,j,none⟩:=by intro j;unfold Addr.add;split <;> simp_all
 refine iR (w.alloc (.cells u T)) s x t ho base e i z k bytes ht hi hz pZ qK xF hk v xs.length us.flatten hs (b3.alloc _) ⟨w.heap.size,0,none⟩ 1 1 u.toList hx (by simp [hu]) ?_ h1 ?_ ?_ ?_ ?_
 ·intro j q hq;rw [py,World.cell?_alloc_new];simpa using hq
 ·unfold maxLen;omega
 ·have:(xs.length+1)*bytes<=100000000000*1000:=Nat.mul_le_mul (by omega) qA;omega
 ·simp;omega
 ·intro v' w' hown pQ _ qb;have qP:w.grownBy w' v.ownBlock:=gO (World.grownBy_alloc w _ v.ownBlock) pQ;have safe:∀ Pr:World->Prop,bj w v.ownBlock Pr->bj w' v'.ownBlock Pr:=fun Pr hP=>bj.append (bj.ext hP (aA.alloc w (.cells u T))) pQ qb;refine h v' w' ⟨us++[u.toList],by simp [b1],?_,?_,?_⟩ qP ?_ ?_ safe
  ·intro q hq;rcases List.mem_append.1 hq with hq | hq;·exact b2 q hq
   ·rw [List.mem_singleton.1 hq];simpa using hu
  ·rw [N1_];simpa using hown
  ·intro j q y' hq hy;by_cases hj:j<us.length
   ·rw [o6 hj] at hq;rw [o6 (by omega)] at hy;exact safe _ (b4 j q y' hq hy)
   ·rw [o8 (by omega)] at hq;rw [o8 (by omega)] at hy;have e1:j-us.length=0:=by
     have:=(od.1 hq).1;simp at this;omega
    have e2:j-xs.length=0:=(by omega);rw [e1] at hq;rw [e2] at hy;simp at hq hy;subst hq;subst hy;exact safe _ hR
  ·refine ⟨qP.os,qP.tape,qP.output,qP.size,fun b hb=>qP.block b (by omega) ?_⟩;intro e;have:=(b3.lt b e.symm).1;omega
  ·have:=pQ.size;simp at this;omega
theorem Z0_ {P:Program} {α:Type} (w:World) {ops:Array Oper} {rest:List Oper} {o:Oper} {a:Act} {Q:Exit->Act->World->Prop} (qj:o.guard=none)
  (s x:Operand) (t:TypeId) (ho:o.op=Op.call { callee:=Callee.builtin Builtin.append,args:=#[s,x],argTypes:=#[t,t] }) (base:Nat) (e:TypeId) (z:Value) (k bytes:Nat)
  (ht:P.underlying t=some (TypeDesc.slice e)) (qG:(P.info? e).map (fun i=>(i.zero,i.size,i.bytes))=some (some z,k,bytes)) (xF:z.cells.size=k) (hk:0<k)
  (v:Value) (R:World->List Value->α->Prop) (xs:List α) (y:α) (u:Array Value) (T:TypeId) (hs:a.eval s=v) (hB:ai w base e k v R xs)
  (hx:a.eval x=.slice (some ⟨w.heap.size,0,none⟩) 1 1) (hu:u.size=k) (h1:∀ z∈u.toList,z.oneCell'=true) (hR:bj w v.ownBlock fun w=>R w u.toList y)
  (hlen:xs.length<100000000000) (qA:bytes<=1000) (pX:base<=w.heap.size)
  (h:∀ v' w',ai w' base e k v' R (xs++[y])->w.grownBy w' v.ownBlock->Below base w w'->w.heap.size<w'.heap.size->(∀ Pr:World->Prop,bj w v.ownBlock Pr->bj w' v'.ownBlock Pr)->wpList P ops Q rest (a.put o.dst v') w') :
  wpList P ops Q (o::rest) a (w.alloc (.cells u T)) :=
 wpList_plain qj fun _ hK=>M6_ w s x t ho base e z k bytes ht qG xF hk v R xs y u T hs hB hx hu h1 hR hlen qA pX fun v' w' a1 a2 a3 a4 a5=>hK _ _ (h v' w' a1 a2 a3 a4 a5)
theorem iQ {P:Program} {α:Type} (w:World) {ops:Array Oper} {rest:List Oper} {o:Oper} {a:Act} {Q:Exit->Act->World->Prop} (qj:o.guard=none)
  (s x:Operand) (t:TypeId) (ho:o.op=Op.call { callee:=Callee.builtin Builtin.append,args:=#[s,x],argTypes:=#[t,t] }) (base:Nat) (e:TypeId) (z:Value) (k bytes:Nat)
  (ht:P.underlying t=some (TypeDesc.slice e)) (qG:(P.info? e).map (fun i=>(i.zero,i.size,i.bytes))=some (some z,k,bytes)) (xF:z.cells.size=k) (hk:0<k)
  (v:Value) (R:World->List Value->α->Prop) (xs:List α) (y:α) (u:Array Value) (T:TypeId) (hs:a.eval s=v) (hB:ai w base e k v R xs)
  (hx:a.eval x=.slice (some ⟨w.heap.size,0,none⟩) 1 1) (hu:u.size=k) (h1:∀ z∈u.toList,z.oneCell'=true) (hR:bj w v.ownBlock fun w=>R w u.toList y)
  (hlen:xs.length<1000000) (qA:bytes<=1000) (pX:base<=w.heap.size)
  (h:∀ v' w',ai w' base e k v' R (xs++[y])->w.grownBy w' v.ownBlock->Below base w w'->w.heap.size<w'.heap.size->(∀ Pr:World->Prop,bj w v.ownBlock Pr->bj w' v'.ownBlock Pr)->wpList P ops Q rest (a.put o.dst v') w') :
  wpList P ops Q (o::rest) a (w.alloc (.cells u T)) :=
 Z0_ w qj s x t ho base e z k bytes ht qG xF hk v R xs y u T hs hB hx hu h1 hR (Nat.lt_trans hlen (by decide)) qA pX h
structure aH (S:Nat->Prop) (w w':World):Prop where
 os:w'.os=w.os
 tape:w'.tape=w.tape
 output:w'.output=w.output
 size:w.heap.size<=w'.heap.size
 block:∀ k,k<w.heap.size->¬ S k->w'.heap[k]?=w.heap[k]?
theorem aH.refl (S:Nat->Prop) (w:World):aH S w w:=⟨rfl,rfl,rfl,oz _,fun _ _ _=>rfl⟩
theorem aH.trans {S:Nat->Prop} {a b c:World} (h:aH S a b) (k:aH S b c):aH S a c :=
 ⟨k.os.trans h.os,k.tape.trans h.tape,k.output.trans h.output,ow h.size k.size,fun i hi ho=>(k.block i (ov hi h.size) ho).trans (h.block i hi ho)⟩
theorem aH.weak {S S':Nat->Prop} {a b:World} (h:aH S a b) (hS:∀ k,k<a.heap.size->S k->S' k):aH S' a b :=
 ⟨h.os,h.tape,h.output,h.size,fun i hi ho=>h.block i hi fun hs=>ho (hS i hi hs)⟩
theorem aA.grownS {w w':World} (h:aA w w') (S:Nat->Prop):aH S w w':=⟨h.os,h.tape,h.output,h.size,fun k hk _=>h.block k hk⟩
theorem mZ {S:Nat->Prop} {w w':World} {o:Option Nat} (h:w.grownBy w' o) (ho:∀ k,o=some k->S k):aH S w w' :=
 ⟨h.os,h.tape,h.output,h.size,fun k hk hs=>h.block k hk fun e=>hs (ho k e.symm)⟩
def aZ (w:World) (S:Nat->Prop) (P:World->Prop):Prop:=∀ w',aH S w w'->P w'
theorem aZ.now {w:World} {S:Nat->Prop} {P:World->Prop} (h:aZ w S P):P w:=h w (aH.refl S w)
theorem aZ.grow {w w':World} {S S':Nat->Prop} {P:World->Prop} (h:aZ w S P) (hg:aH S w w') (hS:∀ k,S' k->S k\/w.heap.size<=k):aZ w' S' P:=by
 intro w2 h2;refine h w2 ⟨h2.os.trans hg.os,h2.tape.trans hg.tape,h2.output.trans hg.output,ow hg.size h2.size,fun i hi ho=>?_⟩;refine (h2.block i (ov hi hg.size) fun hs=>?_).trans (hg.block i hi ho);rcases hS i hs with h | h;·exact ho h
 ·omega
theorem aZ.ext {w w':World} {S:Nat->Prop} {P:World->Prop} (h:aZ w S P) (he:aA w w'):aZ w' S P:=h.grow (he.grownS S) fun _ hs=>.inl hs
theorem aZ.mono {w:World} {S:Nat->Prop} {P P':World->Prop} (h:aZ w S P) (hp:∀ w,P w->P' w):aZ w S P':=fun w' hg=>hp _ (h w' hg)
theorem aZ.below {w0 w:World} {S:Nat->Prop} {P:World->Prop} (hP:∀ w',aA w0 w'->P w') (he:aA w0 w) (ho:∀ k,S k->w0.heap.size<=k):aZ w S P:=by
 intro w' hg;refine hP w' (Below.trans he (c:=w') ⟨hg.os,hg.tape,hg.output,hg.size,fun k hk=>hg.block k (ov hk he.size) fun hs=>?_⟩);have:=ho k hs;omega
theorem aZ.owns {w:World} {S:Nat->Prop} {base:Nat} {e:TypeId} {size:Nat} {v:Value} {n:Nat} {xs:List Value} (h:w.ownsRow base e size v n xs) (hne:∀ k,v.ownBlock=some k->¬ S k):aZ w S fun w=>w.ownsRow base e size v n xs:=by
 intro w' hg;refine ⟨h.1,?_⟩;rcases h.2 with hn | ⟨g,cap,cur,rfl,hb,sh,rest⟩
 ·exact .inl hn
 ·refine .inr ⟨g,cap,cur,rfl,hb,?_,rest⟩;rw [hg.block g (Array.getElem?_eq_some_iff.1 sh).1 (hne g rfl)];exact sh
def jC (S:Nat->Prop) (base:Nat) (w:World):Prop:=∀ b,S b->base<=b/\b<w.heap.size
theorem jC.grow {S:Nat->Prop} {base:Nat} {w w':World} (h:jC S base w) (hs:w.heap.size<=w'.heap.size):jC S base w':=fun b hb=>⟨(h b hb).1,ov (h b hb).2 hs⟩
theorem aZ.seq {w:World} {S:Nat->Prop} {n m:Nat} {cs:List Value} {b off:Nat} (h:dN w (.slice (some ⟨b,off,none⟩) n m) n cs) (hb:¬ S b):aZ w S fun w=>dN w (.slice (some ⟨b,off,none⟩) n m) n cs:=by
 intro w' hg;obtain ⟨a,cap,hv,h1,h2,h3,h4⟩:=h;simp only [Value.slice.injEq] at hv;obtain ⟨rfl,-,rfl⟩:=hv;refine ⟨_,_,rfl,h1,h2,h3,fun hn=>?_⟩;obtain ⟨b',off',ha,hlt,hc⟩:=h4 hn;simp only [Option.some.injEq,Addr.mk.injEq] at ha;obtain ⟨rfl,rfl,-⟩:=ha;refine ⟨b,off,rfl,ov hlt hg.size,fun j u hu=>?_⟩;exact (World.cell?_of_block (a:=⟨b,off+j,none⟩) (hg.block b hlt hb)).trans (hc j u hu)
theorem aZ.listAt {α:Type} {k:Nat} {R:World->List Value->α->Prop} {w:World} {S:Nat->Prop} {v:Value} {xs:List α} (us:List (List Value)) (h1:us.length=xs.length) (h2:∀ u∈us,u.length=k)
  (h3:aZ w S fun w=>dN w v xs.length us.flatten) (h4:∀ (j:Nat) u x,us[j]?=some u->xs[j]?=some x->aZ w S fun w=>R w u x):aZ w S fun w=>aN k R w v xs :=
 fun w' hg=>⟨us,h1,h2,h3 w' hg,fun j u x hu hx=>h4 j u x hu hx w' hg⟩
theorem aZ.ints {w:World} {S:Nat->Prop} {g off n m:Nat} {xs:pN} (h:aM w (.slice (some ⟨g,off,none⟩) n m) xs) (hg:¬ S g):aZ w S fun w=>aM w (.slice (some ⟨g,off,none⟩) n m) xs:=by
 obtain ⟨us,h1,h2,h3,h4⟩:=h;obtain ⟨a',c',hv,_⟩:=id h3;simp only [Value.slice.injEq] at hv;obtain ⟨-,rfl,-⟩:=hv;exact aZ.listAt us h1 h2 (aZ.seq h3 hg) (fun j u x hu hx w' _=>h4 j u x hu hx)
theorem aZ.lit {α:Type} {R:World->Value->α->Prop} {w:World} {S:Nat->Prop} {n:Nat} (hS:∀ b,S b->b<w.heap.size) (hn:n=w.heap.size) (us:List Value) (xs:List α) (T:TypeId) (m:Nat) (hm:m=xs.length) (hl:us.length=xs.length) (hx:xs.length<=maxLen) (C:Array Value) (hC:C=us.toArray)
  (h:∀ (j:Nat) u x,us[j]?=some u->xs[j]?=some x->aZ w S fun w=>R w u x):aZ (w.alloc (.cells C T)) S fun w'=>aN 1 (ae R) w' (.slice (some ⟨n,0,none⟩) m m) xs:=by
 subst hn;subst hm;subst hC;refine aZ.listAt (us.map fun u=>[u]) (by simpa using hl) (by simp) ?_ ?_
 ·rw [eR (fun u=>u)];have:=aZ.seq (S:=S) (dN.lit w us xs.length T hx) (fun hb=>by have:=hS _ hb;omega);simpa using this
 ·intro j u x hu hx;rw [oh] at hu;cases hj:us[j]? with
  | none=>simp [hj] at hu
  | some v=>simp [hj] at hu;exact ((h j v x hj hx).ext (aA.alloc _ _)).mono fun w hw=>⟨v,hu.symm,hw⟩
theorem aZ.intsLit {w:World} {S:Nat->Prop} {n:Nat} (hS:∀ b,S b->b<w.heap.size) (hn:n=w.heap.size) (xs:pN) (T:TypeId) (m:Nat) (hm:m=xs.length) (hl:xs.length<=maxLen) (hb:∀ x∈xs,-9223372036854775808<=x/\x<=9223372036854775807) (C:Array Value) (hC:C=(xs.map (Value.int .i64)).toArray) :
  aZ (w.alloc (.cells C T)) S fun w'=>aM w' (.slice (some ⟨n,0,none⟩) m m) xs:=by
 subst hn;subst hm;subst hC;refine aZ.listAt (xs.map fun x=>[Value.int .i64 x]) (by simp) (by simp) ?_ ?_
 ·rw [eR];exact aZ.seq (S:=S) (dN.lit w _ xs.length T hl) (fun hb=>by have:=hS _ hb;omega)
 ·intro j u x hu hx;simp only [oh,hx,Option.map_some,Option.some.injEq] at hu;exact fun _ _=>⟨hu.symm,hb x (og hx)⟩
theorem ah {w:World} {B:Nat} {C:Array Value} {T:TypeId} (h:w.heap[B]?=some (.cells C T (0,0))) (i:Nat):w.cell? ⟨B,i,none⟩=C[i]?:=by simp [World.cell?,h]
theorem cQ {w:World} {B:Nat} {C:Array Value} {T:TypeId} (h:w.heap[B]?=some (.cells C T (0,0))) (i:Nat):w.frozen? ⟨B,i,none⟩=false:=by simp [World.frozen?,h]
theorem cG {w:World} {B:Nat} {o:Obj} (h:w.heap[B]?=some o):B<w.heap.size:=(Array.getElem?_eq_some_iff.1 h).1
theorem dr {w:World} {B:Nat} {C:Array Value} {T:TypeId} (h:w.heap[B]?=some (.cells C T (0,0))) (i:Nat) (x:Value):(w.setCell ⟨B,i,none⟩ x).heap[B]?=some (.cells (C.setIfInBounds i x) T (0,0)):=by
 have hlt:=cG h;have h':w.heap[B]=.cells C T (0,0):=by simpa [Array.getElem?_eq_getElem hlt] using h
 show (w.heap.modify B _)[B]?=_;rw [Array.getElem?_eq_getElem (by simpa using hlt),Array.getElem_modify_self,h'];rfl
theorem aF {w w':World} {B:Nat} {o:Obj} (h:w.heap[B]?=some o) (he:aA w w'):w'.heap[B]?=some o:=(he.block B (cG h)).trans h
theorem eV {w w':World} {B:Nat} {o:Obj} {r:Option Nat} (h:w.heap[B]?=some o) (hg:w.grownBy w' r) (hr:r≠some B):w'.heap[B]?=some o:=(hg.block B (cG h) (fun e=>hr e.symm)).trans h
theorem dq (w:World) (C:Array Value) (T:TypeId):(w.alloc (.cells C T)).heap[w.heap.size]?=some (.cells C T (0,0)):=heap_alloc_new w _
theorem lh {w:World} {base:Nat} {e:TypeId} {k:Nat} {v:Value} {n:Nat} {xs:List Value} (h:w.ownsRow base e k v n xs) {B:Nat} {C:Array Value} {T:TypeId} {fr:Nat×Nat} (hB:w.heap[B]?=some (.cells C T fr)) (hne:e≠T):v.ownBlock≠some B:=by
 intro hb;rcases h.2 with ⟨rfl,_⟩ | ⟨g,cap,cur,rfl,_,hg,_⟩
 ·simp [Value.ownBlock] at hb
 ·simp [Value.ownBlock] at hb;subst hb;rw [hg] at hB;simp at hB;exact hne hB.2.1
theorem fT (w:World) (B i:Nat) (x:Value):w.grownBy (w.setCell ⟨B,i,none⟩ x) (some B) :=
 ⟨rfl,rfl,rfl,by simp [World.setCell],fun k hk hne=>Below.heap_setCell _ _ _ _ (fun e=>hne (by rw [e]))⟩
def bc {α:Type} (w:World) (S:Nat->Prop) (base:Nat) (e:TypeId) (k:Nat) (v:Value) (R:World->List Value->α->Prop) (xs:List α):Prop :=
 (∀ b,v.ownBlock=some b->S b)/\∃ us:List (List Value),us.length=xs.length/\(∀ u∈us,u.length=k)/\w.ownsRow base e k v xs.length us.flatten /\
  ∀ (j:Nat) u x,us[j]?=some u->xs[j]?=some x->aZ w S fun w=>R w u x
section
variable {α:Type} {w w':World} {S S':Nat->Prop} {base:Nat} {e:TypeId} {k:Nat} {v:Value} {R:World->List Value->α->Prop} {xs:List α}
theorem bc.nil (w:World) (S:Nat->Prop) (base:Nat) (e:TypeId) (k:Nat) (R:World->List Value->α->Prop):bc w S base e k (.slice none 0 0) R [] :=
 ⟨by intro b h;simp [Value.ownBlock] at h,[],rfl,by simp,by simpa using World.ownsRow_nil w base e k,by simp⟩
theorem bc.ext (h:bc w S base e k v R xs) (he:aA w w'):bc w' S base e k v R xs:=by
 obtain ⟨h0,us,h1,h2,h3,h4⟩:=h;exact ⟨h0,us,h1,h2,et h3 he,fun j u x hu hx=>(h4 j u x hu hx).ext he⟩
theorem bc.list (h:bc w S base e k v R xs):aN k R w v xs:=by
 obtain ⟨h0,us,h1,h2,h3,h4⟩:=h;exact ⟨us,h1,h2,dN.of_owns h3,fun j u x hu hx=>(h4 j u x hu hx).now⟩
theorem bc.lt (h:bc w S base e k v R xs):∀ b,v.ownBlock=some b->base<=b/\b<w.heap.size:=by
 obtain ⟨h0,us,h1,h2,h3,h4⟩:=h;exact h3.lt
theorem bc.shape (h:bc w S base e k v R xs) (hx:0<xs.length):∃ g cap,v=.slice (some ⟨g,0,none⟩) xs.length cap/\base<=g/\g<w.heap.size/\xs.length<=cap/\cap<=maxLen:=by
 obtain ⟨h0,us,h1,h2,h3,h4⟩:=h;exact eu h3 hx
theorem bc.neBlock (h:bc w S base e k v R xs) {B:Nat} {C:Array Value} {T:TypeId} {fr:Nat×Nat} (hB:w.heap[B]?=some (.cells C T fr)) (hne:e≠T):v.ownBlock≠some B:=by
 obtain ⟨h0,us,h1,h2,h3,h4⟩:=h;exact lh h3 hB hne
theorem bc.store (h:bc w S base e k v R xs) {B i:Nat} {x:Value} (hB:S B) (hne:v.ownBlock≠some B):bc (w.setCell ⟨B,i,none⟩ x) S base e k v R xs:=by
 obtain ⟨h0,us,h1,h2,h3,h4⟩:=h;refine ⟨h0,us,h1,h2,h3.kept (fT w B i x) ?_,fun j u x hu hx=>(h4 j u x hu hx).grow (mZ (fT w B i _) (fun k hk=>by cases hk;exact hB)) (fun k hk=>.inl hk)⟩;cases hv:v.ownBlock with
 | none=>exact .inl rfl
 | some b=>exact .inr (fun e=>hne (hv.trans e))
theorem bc.other {o:Option Nat} (h:bc w S base e k v R xs) (hg:w.grownBy w' o) (ho:∀ b,o=some b->S b) (hne:∀ b,v.ownBlock=some b->o≠some b) (hS:∀ k,S' k->S k\/w.heap.size<=k) (Lx:∀ k,S k->S' k):bc w' S' base e k v R xs:=by
 obtain ⟨h0,us,h1,h2,h3,h4⟩:=h;refine ⟨fun b hb=>Lx _ (h0 b hb),us,h1,h2,h3.kept hg ?_,fun j u x hu hx=>(h4 j u x hu hx).grow (mZ hg ho) hS⟩;cases hv:v.ownBlock with
 | none=>exact .inl rfl
 | some b=>exact .inr (fun e=>hne b hv e.symm)
theorem aZ.weak {w:World} {S S':Nat->Prop} {P:World->Prop} (h:aZ w S P) (hS:∀ b,S' b->S b):aZ w S' P:=fun w' hg=>h w' (hg.weak fun b _ hb=>hS b hb)
theorem bc.finish {g n cap:Nat} (h:bc w S base e k (.slice (some ⟨g,0,none⟩) n cap) R xs) (hn:n=xs.length):aZ w (fun b=>S b/\b≠g) fun w=>aN k R w (.slice (some ⟨g,0,none⟩) n cap) xs:=by
 subst hn;obtain ⟨h0,us,h1,h2,h3,h4⟩:=h;exact aZ.listAt us h1 h2 (aZ.seq (dN.of_owns h3) (fun hb=>hb.2 rfl)) (fun j u x hu hx=>(h4 j u x hu hx).weak fun b hb=>hb.1)
theorem bc.keeps (h:bc w S base e k v R xs) (hS:∀ b,S' b->S b/\b<base):aZ w S' fun w=>aN k R w v xs:=by
 by_cases hx:0<xs.length
 ·obtain ⟨g,cap,rfl,hb,-,-,-⟩:=h.shape hx;exact (h.finish rfl).weak fun b ql=>⟨(hS b ql).1,fun e=>by have:=(hS b ql).2;omega⟩
 ·obtain ⟨h0,us,h1,h2,h3,h4⟩:=h;have qB:xs=[]:=List.length_eq_zero_iff.1 (by omega);subst qB;have Kl:us=[]:=List.length_eq_zero_iff.1 h1;subst Kl;obtain ⟨a,c,hv,g1,g2,g3,-⟩:=dN.of_owns h3;intro w' _;exact ⟨[],rfl,by simp,⟨a,c,hv,g1,g2,g3,fun hn=>absurd rfl hn⟩,by simp⟩
theorem bc.shrink (h:bc w S base e k v R xs) (hS:∀ b,S' b->S b) (hv:∀ b,v.ownBlock=some b->S' b):bc w S' base e k v R xs:=by
 obtain ⟨h0,us,h1,h2,h3,h4⟩:=h;exact ⟨hv,us,h1,h2,h3,fun j u x hu hx=>(h4 j u x hu hx).weak hS⟩
theorem bc.drop {g:Nat} (h:bc w S base e k v R xs) (hv:v.ownBlock≠some g):bc w (fun b=>S b/\b≠g) base e k v R xs :=
 h.shrink (fun b hb=>hb.1) fun b hb=>⟨h.1 b hb,fun e=>hv (e▸hb)⟩
theorem Z19 {w:World} {base base':Nat} {e e':TypeId} {k k':Nat} {v v':Value} {n n':Nat} {xs xs':List Value} (h:w.ownsRow base e k v n xs) (h':w.ownsRow base' e' k' v' n' xs') (hne:e≠e'):∀ b,v.ownBlock=some b->v'.ownBlock≠some b:=by
 intro b hb ql;rcases h.2 with ⟨rfl,_⟩ | ⟨g,cap,cur,rfl,_,hg,_⟩
 ·simp [Value.ownBlock] at hb
 ·rcases h'.2 with ⟨rfl,_⟩ | ⟨g',cap',cur',rfl,_,vt,_⟩
  ·simp [Value.ownBlock] at ql
  ·simp [Value.ownBlock] at hb ql;subst hb;subst ql;rw [hg] at vt;simp at vt;exact hne vt.2
theorem bc.apart {β:Type} {base':Nat} {e':TypeId} {k':Nat} {v':Value} {R':World->List Value->β->Prop} {ys:List β} (h:bc w S base e k v R xs) (h':bc w S' base' e' k' v' R' ys) (hne:e≠e'):∀ b,v.ownBlock=some b->v'.ownBlock≠some b:=by
 obtain ⟨_,us,_,_,h3,_⟩:=h;obtain ⟨_,us',_,_,h3',_⟩:=h';exact Z19 h3 h3' hne
theorem bc.lit (w:World) (S:Nat->Prop) (us:List (List Value)) (xs:List α) (hb:base<=w.heap.size) (hl:us.length=xs.length) (hk:∀ u∈us,u.length=k) (hn:xs.length<=maxLen) (h:∀ (j:Nat) u x,us[j]?=some u->xs[j]?=some x->aZ w S fun w=>R w u x) :
  bc (w.alloc (.cells us.flatten.toArray e)) (fun b=>S b\/b=w.heap.size) base e k (.slice (some ⟨w.heap.size,0,none⟩) xs.length xs.length) R xs:=by
 have yv:us.flatten.length=xs.length*k:=by
  rw [<- hl];clear hl hn h
  induction us with
  | nil=>simp
  | cons u us ih=>rw [List.flatten_cons,pG,hk u (by simp),ih (fun u hu=>hk u (by simp [hu])),List.length_cons,Nat.succ_mul];omega
 refine ⟨fun b hb=>.inr (by simp [Value.ownBlock] at hb;exact hb.symm),us,hl,hk,?_,?_⟩
 ·have:=World.ownsRow_lit (e:=e) (size:=k) w us.flatten.toArray xs.length hb hn (by simpa using yv);simpa using this
 ·intro j u x hu hx;refine (h j u x hu hx).grow ((aA.alloc w _).grownS S) ?_;intro b hb;rcases hb with hb | hb;·exact .inl hb
  ·exact .inr (by omega)
end
theorem M7_ {P:Program} {α:Type} (w:World) {o:Oper} {a:Act} {K:Act->World->Prop} {Q:Exit->Act->World->Prop}
  (s x:Operand) (t:TypeId) (ho:o.op=Op.call { callee:=Callee.builtin Builtin.append,args:=#[s,x],argTypes:=#[t,t] }) (S:Nat->Prop) (base:Nat) (e:TypeId) (z:Value) (k bytes:Nat)
  (ht:P.underlying t=some (TypeDesc.slice e)) (qG:(P.info? e).map (fun i=>(i.zero,i.size,i.bytes))=some (some z,k,bytes)) (xF:z.cells.size=k) (hk:0<k)
  (v:Value) (R:World->List Value->α->Prop) (xs:List α) (y:α) (u:Array Value) (T:TypeId) (hs:a.eval s=v) (hB:bc w S base e k v R xs)
  (nb:Nat) (hx:a.eval x=.slice (some ⟨nb,0,none⟩) 1 1) (FE:nb=w.heap.size) (hu:u.size=k) (h1:∀ z∈u.toList,z.oneCell'=true) (hR:aZ w S fun w=>R w u.toList y)
  (hlen:xs.length<1000000) (qA:bytes<=1000) (pX:base<=w.heap.size) (zA:Nat) (AX:zA<=base) (hok:jC S zA w)
  (h:∀ v' w' S',jC S' zA w'->(∀ b,S b->S' b)->(∀ b,S' b->S b\/w.heap.size<=b)->bc w' S' base e k v' R (xs++[y])->w.grownBy w' v.ownBlock->Below base w w'->w.heap.size<w'.heap.size->(∀ Pr:World->Prop,aZ w S Pr->aZ w' S' Pr)->K (a.put o.dst v') w') :
  o.wp P a (w.alloc (.cells u T)) K Q:=by
 subst FE;obtain ⟨i,hi,hz,pZ,qK⟩:=info_parts qG;obtain ⟨b0,us,b1,b2,b3,b4⟩:=hB;have py:∀ j,(⟨w.heap.size,0,none⟩:Addr).add j=⟨w.heap.size,j,none⟩:=by intro j;unfold Addr.add;split <;> simp_all
 refine iR (w.alloc (.cells u T)) s x t ho base e i z k bytes ht hi hz pZ qK xF hk v xs.length us.flatten hs (b3.alloc _) ⟨w.heap.size,0,none⟩ 1 1 u.toList hx (by simp [hu]) ?_ h1 ?_ ?_ ?_ ?_
 ·intro j q hq;rw [py,World.cell?_alloc_new];simpa using hq
 ·unfold maxLen;omega
 ·have:(xs.length+1)*bytes<=1000000*1000:=Nat.mul_le_mul (by omega) qA;omega
 ·simp;omega
 ·intro v' w' hown pQ _ qb;have qP:w.grownBy w' v.ownBlock:=gO (World.grownBy_alloc w _ v.ownBlock) pQ;have C4:∀ b,(S b\/v'.ownBlock=some b)->S b\/w.heap.size<=b:=by
   intro b hb;rcases hb with hb | hb;·exact .inl hb
   ·rcases qb with e | e;·exact .inl (b0 b (e▸hb))
    ·rw [e] at hb;refine .inr ?_;simp at hb;omega
  have safe:∀ Pr:World->Prop,aZ w S Pr->aZ w' (fun b=>S b\/v'.ownBlock=some b) Pr:=fun Pr hP=>hP.grow (mZ qP b0) C4;have E8:jC (fun b=>S b\/v'.ownBlock=some b) zA w':=by
   intro b hb;rcases hb with hb | hb;·exact ⟨(hok b hb).1,ov (hok b hb).2 qP.size⟩
   ·exact ⟨ow AX (hown.lt b hb).1,(hown.lt b hb).2⟩
  refine h v' w' (fun b=>S b\/v'.ownBlock=some b) E8 (fun b hb=>.inl hb) C4 ⟨fun b hb=>.inr hb,us++[u.toList],by simp [b1],?_,?_,?_⟩ qP ?_ ?_ safe
  ·intro q hq;rcases List.mem_append.1 hq with hq | hq;·exact b2 q hq
   ·rw [List.mem_singleton.1 hq];simpa using hu
  ·rw [N1_];simpa using hown
  ·intro j q y' hq hy;by_cases hj:j<us.length
   ·rw [o6 hj] at hq;rw [o6 (by omega)] at hy;exact safe _ (b4 j q y' hq hy)
   ·rw [o8 (by omega)] at hq;rw [o8 (by omega)] at hy;have e1:j-us.length=0:=by
     have:=(od.1 hq).1;simp at this;omega
    have e2:j-xs.length=0:=(by omega);rw [e1] at hq;rw [e2] at hy;simp at hq hy;subst hq;subst hy;exact safe _ hR
  ·refine ⟨qP.os,qP.tape,qP.output,qP.size,fun b hb=>qP.block b (by omega) ?_⟩;intro e;have:=(b3.lt b e.symm).1;omega
  ·have:=pQ.size;simp at this;omega
theorem Z6_ {P:Program} {α:Type} (w:World) {ops:Array Oper} {rest:List Oper} {o:Oper} {a:Act} {Q:Exit->Act->World->Prop} (qj:o.guard=none)
  (s x:Operand) (t:TypeId) (ho:o.op=Op.call { callee:=Callee.builtin Builtin.append,args:=#[s,x],argTypes:=#[t,t] }) (S:Nat->Prop) (base:Nat) (e:TypeId) (z:Value) (k bytes:Nat)
  (ht:P.underlying t=some (TypeDesc.slice e)) (qG:(P.info? e).map (fun i=>(i.zero,i.size,i.bytes))=some (some z,k,bytes)) (xF:z.cells.size=k) (hk:0<k)
  (v:Value) (R:World->List Value->α->Prop) (xs:List α) (y:α) (u:Array Value) (T:TypeId) (hs:a.eval s=v) (hB:bc w S base e k v R xs)
  (nb:Nat) (hx:a.eval x=.slice (some ⟨nb,0,none⟩) 1 1) (FE:nb=w.heap.size) (hu:u.size=k) (h1:∀ z∈u.toList,z.oneCell'=true) (hR:aZ w S fun w=>R w u.toList y)
  (hlen:xs.length<1000000) (qA:bytes<=1000) (pX:base<=w.heap.size) (zA:Nat) (AX:zA<=base) (hok:jC S zA w)
  (h:∀ v' w' S',jC S' zA w'->(∀ b,S b->S' b)->(∀ b,S' b->S b\/w.heap.size<=b)->bc w' S' base e k v' R (xs++[y])->w.grownBy w' v.ownBlock->Below base w w'->w.heap.size<w'.heap.size->(∀ Pr:World->Prop,aZ w S Pr->aZ w' S' Pr)->wpList P ops Q rest (a.put o.dst v') w') :
  wpList P ops Q (o::rest) a (w.alloc (.cells u T)) :=
 wpList_plain qj fun _ hK=>M7_ w s x t ho S base e z k bytes ht qG xF hk v R xs y u T hs hB nb hx FE hu h1 hR hlen qA pX zA AX hok fun v' w' S' a0 a1 a2 a3 a4 a5 a6 a7=>hK _ _ (h v' w' S' a0 a1 a2 a3 a4 a5 a6 a7)
theorem jo:(prog.info? 3).map (fun i=>(i.zero,i.size,i.bytes))=some (some (.int .i64 0),1,8):=by kernel_rfl
theorem Z2D:(prog.info? 36).map (fun i=>(i.zero,i.size,i.bytes))=some (some (.slice none 0 0),1,24):=by kernel_rfl
theorem aQ {α : Type _} (l : List α) (i : Nat) (a : α) : l.toArray.setIfInBounds i a = (l.set i a).toArray := by simp
theorem aR {α : Type _} (a b : α) (l : List α) : (a :: l).set 0 b = b :: l := List.set_cons_zero
theorem aS {α : Type _} (a b : α) (l : List α) (i : Nat) : (a :: l).set (i + 1) b = a :: l.set i b := List.set_cons_succ
abbrev pJ (f:Nat) (a:Array Value) (w:World) (v:Value):Prop:=Calls prog f a w fun e w'=>e=.returned v/\w=w'
abbrev pI (f:Nat) (a:Array Value) (w:World) (v:Value):Prop:=Calls prog f a w fun e w'=>e=.returned v/\aA w w'
theorem p_ {f:Nat} {a:Array Value} {w:World} {v:Value} {P:World->Prop} {Q:Ending->World->Prop} (h:Calls Tryz.prog f a w fun e w'=>e=.returned v/\P w') (k:∀ w',Hid (P w')->Q (.returned v) w'):Calls Tryz.prog f a w Q:=h.mono (by rintro e w' ⟨rfl,o⟩;exact k w' o)
theorem q_ {f:Nat} {a:Array Value} {w:World} {v:Value} {P R:World->Prop} {Q:Ending->World->Prop} (h:Calls Tryz.prog f a w fun e w'=>e=.returned v/\P w') (g:∀ {w'},P w'->R w') (k:∀ w',Hid (R w')->Q (.returned v) w'):Calls Tryz.prog f a w Q:=h.mono (by rintro e w' ⟨rfl,o⟩;exact k w' (g o))
theorem r_ {f:Nat} {a:Array Value} {w:World} {v:Value} {P:World->Prop} {Q:Ending->World->Prop} {u:World} (h:Calls Tryz.prog f a w fun e w'=>e=.returned v/\P w') (k:Q (.returned v) u) (g:∀ w',P w'->w'=u:=by (intro w' h;first|exact h|exact h.symm)):Calls Tryz.prog f a w Q:=h.mono (by rintro e w' ⟨rfl,o⟩;cases g w' o;exact k)
end Go.Proofs.YtoonaddcfakamaaGreatDoor
