import Derived.Test.YtjlkkofmojgipaaGreatDoorXBA
import Derived.Test.YtjlkkofmojgipaaGreatDoorXAV
import Derived.Test.YtjlkkofmojgipaaGreatDoorXAZ
import Derived.Test.YtjlkkofmojgipaaGreatDoorXAL
import Derived.Test.YtjlkkofmojgipaaGreatDoorRows
import Derived.WalkKit
import Derived.ProofKit
import Derived.OpenShut
import Derived.Test.YtjlkkofmojgipaaGreatDoorXAA
import Derived.ChangeSlices
import Derived.Test.YtjlkkofmojgipaaGreatDoorXAD
import Derived.LaidMore
import Derived.LaidLaws
import Derived.MakeChecks
import Derived.Lib.LaidTab
import Derived.Stop.Joined
import Derived.Stop.LaidErr
import Derived.Lay
import Derived.Test.YtjlkkofmojgipaaGreatDoorTie
import Derived.Test.YtjlkkofmojgipaaGreatDoorCards
import Derived.Test.YtjlkkofmojgipaaGreatDoorXAP
set_option linter.unusedVariables false
set_option linter.unusedSimpArgs false
set_option maxRecDepth 1000000
set_option maxHeartbeats 4000000
namespace Go.Proofs.YtjlkkofmojgipaaGreatDoor
open Go.RowKit Go.Proofs.Tryz
def cC (a:Act):List (Nat×Nat)->List (Option Value)->Act
 | t::ts,some v::vs=>cC (a.put (some t.2) v) ts vs
 | _::ts,none::vs=>cC a ts vs
 | _,_=>a
def dY (l:Array Bool):List (Nat×Nat)->List Bool->Array Bool
 | t::ts,true::ps=>dY (l.setIfInBounds t.1 true) ts ps
 | _::ts,false::ps=>dY l ts ps
 | _,_=>l
def Z6z:Nat->List (List Bool)
 | 0=>[[]]
 | n+1=>(Z6z n).flatMap fun p=>[false::p,true::p]
theorem e7_:∀ p:List Bool,p∈Z6z p.length
 | []=>List.mem_singleton.2 rfl
 | b::p=>List.mem_flatMap.2 ⟨p,e7_ p,by cases b <;> simp⟩
theorem v3_ (i:Nat):∀ (ts:List (Nat×Nat)) (ps:List Bool) (l:Array Bool),dY (l.setIfInBounds i true) ts ps=(dY l ts ps).setIfInBounds i true
 | [],_,_=>by simp [dY]
 | _::_,[],_=>by simp [dY]
 | t::ts,true::ps,l=>by
  rw [dY,dY,<- v3_ i ts ps];congr 1;apply Array.ext_getElem?;intro j;simp only [Array.getElem?_setIfInBounds,Array.size_setIfInBounds];by_cases h1:t.1=j <;> by_cases h2:i=j <;> simp [h1,h2]
 | t::ts,false::ps,l=>by rw [dY,dY,v3_ i ts ps]
theorem h1_:∀ (ts:List (Nat×Nat)) (ps:List Bool) (l:Array Bool) (j:Nat) t,ts[j]?=some t->ps[j]?=some false->(dY l ts ps).setIfInBounds t.1 true=dY l ts (ps.set j true)
 | [],_,_,j,t,h,_=>by simp at h
 | _::_,[],_,j,t,_,h=>by simp at h
 | s::ts,p::ps,l,0,t,h,hp=>by
  simp at h hp;subst h;subst hp;rw [List.set_cons_zero,dY,dY,v3_]
 | s::ts,true::ps,l,j+1,t,h,hp=>by
  rw [List.set_cons_succ,dY,dY];exact h1_ ts ps _ j t (by simpa using h) (by simpa using hp)
 | s::ts,false::ps,l,j+1,t,h,hp=>by
  rw [List.set_cons_succ,dY,dY];exact h1_ ts ps _ j t (by simpa using h) (by simpa using hp)
theorem h0_ {s:Nat} (v:Value):∀ (ts:List (Nat×Nat)) (vs:List (Option Value)) (a:Act),(∀ t∈ts,t.2≠s)->cC (a.put (some s) v) ts vs=(cC a ts vs).put (some s) v
 | [],_,_,_=>by simp [cC]
 | _::_,[],_,_=>by simp [cC]
 | t::ts,some u::vs,a,h=>by
  rw [cC,cC,<- h0_ v ts vs _ (fun t ht=>h t (List.mem_cons_of_mem _ ht)),Z65 a (fun e=>h t (List.mem_cons_self ..) e.symm)]
 | t::ts,none::vs,a,h=>by rw [cC,cC,h0_ v ts vs _ (fun t ht=>h t (List.mem_cons_of_mem _ ht))]
theorem v1_ (v:Value):∀ (ts:List (Nat×Nat)) (vs:List (Option Value)) (a:Act) (j:Nat) t,(ts.map (·.2)).Nodup->ts[j]?=some t->vs[j]?=some none->(cC a ts vs).put (some t.2) v=cC a ts (vs.set j (some v))
 | [],_,_,j,t,_,h,_=>by simp at h
 | _::_,[],_,j,t,_,_,h=>by simp at h
 | s::ts,p::vs,a,0,t,hn,h,hp=>by
  simp at h hp;subst h;subst hp;rw [List.map_cons,List.nodup_cons] at hn;rw [List.set_cons_zero,cC,cC,h0_ v ts vs a fun t ht e=>hn.1 (List.mem_map.2 ⟨t,ht,e⟩)]
 | s::ts,some u::vs,a,j+1,t,hn,h,hp=>by
  rw [List.map_cons,List.nodup_cons] at hn;rw [List.set_cons_succ,cC,cC];exact v1_ v ts vs _ j t hn.2 (by simpa using h) (by simpa using hp)
 | s::ts,none::vs,a,j+1,t,hn,h,hp=>by
  rw [List.map_cons,List.nodup_cons] at hn;rw [List.set_cons_succ,cC,cC];exact v1_ v ts vs _ j t hn.2 (by simpa using h) (by simpa using hp)
theorem ny {k:Nat}:∀ (ts:List (Nat×Nat)) (vs:List (Option Value)) (a:Act),(∀ t∈ts,t.2≠k)->(cC a ts vs).eval (.tmp k)=a.eval (.tmp k)
 | [],_,_,_=>by simp [cC]
 | _::_,[],_,_=>by simp [cC]
 | t::ts,some u::vs,a,h=>by
  rw [cC,ny ts vs _ (fun t ht=>h t (List.mem_cons_of_mem _ ht)),l1_ (h t (List.mem_cons_self ..))]
 | t::ts,none::vs,a,h=>by rw [cC,ny ts vs _ (fun t ht=>h t (List.mem_cons_of_mem _ ht))]
theorem v2_:∀ (ts:List (Nat×Nat)) (vs:List (Option Value)) (a:Act),(cC a ts vs).tmps.size=a.tmps.size
 | [],_,_=>by simp [cC]
 | _::_,[],_=>by simp [cC]
 | t::ts,some u::vs,a=>by rw [cC,v2_ ts vs];simp [Act.put]
 | t::ts,none::vs,a=>by rw [cC,v2_ ts vs]
theorem Z5I {t:Nat×Nat} {v:Value} {ts:List (Nat×Nat)} {vs:List (Option Value)} {a:Act} {j:Nat} (hn:(ts.map (·.2)).Nodup) (h:ts[j]?=some t) (hv:vs[j]?=some (some v)) (hs:t.2<a.tmps.size):(cC a ts vs).eval (.tmp t.2)=v:=by
 have h1:=v1_ v ts (vs.set j none) a j t hn h (by rw [oV,if_pos rfl,if_pos (n_.1 hv).1]);have h2:(vs.set j none).set j (some v)=vs:=by
  rw [List.set_set];apply List.ext_getElem?;intro i;rw [oV]
  split
  ·rename_i e;subst e;rw [if_pos (n_.1 hv).1,hv]
  ·rfl
 rw [h2] at h1;rw [<- h1];have hs2:t.2<(cC a ts (vs.set j none)).tmps.size:=by rw [v2_];exact hs
 simp [Act.put,Act.eval,Array.getD_eq_getD_getElem?,hs2]
def lK (deps:List (List Nat)) (ps:List Bool):Bool:=(List.range ps.length).all fun j=>!(ps.getD j false) || (deps.getD j []).all fun d=>ps.getD d false
def Z6R (md:Region.Mode) (ops:Array Oper) (l0:Array Bool) (ts:List (Nat×Nat)) (deps:List (List Nat)) (m:Nat):Bool :=
 (Z6z ts.length).all fun ps=>!(lK deps ps) || ((decide ((dY l0 ts ps).toList.count false=m) == ps.all id) && (ps.all id || (!(Region.ready md ops (dY l0 ts ps)).isEmpty && (Region.ready md ops (dY l0 ts ps)).all fun i=>(List.range ts.length).any fun j=>decide ((ts.getD j (0,0)).1=i) && !(ps.getD j true) && (deps.getD j []).all fun d=>ps.getD d false)))
theorem Z5s {deps:List (List Nat)} {ps:List Bool} {j:Nat} (h:lK deps ps=true) (hj:(deps.getD j []).all (fun d=>ps.getD d false)=true):lK deps (ps.set j true)=true:=by
 unfold lK at h |-;rw [List.all_eq_true] at h |-;intro i hi;rw [List.length_set] at hi;have hup:∀ d,ps.getD d false=true->(ps.set j true).getD d false=true:=fun d hd=>by
  rw [oC,oV];rw [oC] at hd
  split
  ·rename_i e;subst e;cases hq:ps[j]? with
   | none=>rw [hq] at hd;cases hd
   | some b=>rw [if_pos (n_.1 hq).1];rfl
  ·exact hd
 have hall:∀ l:List Nat,l.all (fun d=>ps.getD d false)=true->l.all (fun d=>(ps.set j true).getD d false)=true:=fun l hl=>by
  rw [List.all_eq_true] at hl |-;exact fun d hd=>hup d (hl d hd)
 have h9:=h i hi;rw [Bool.or_eq_true] at h9 |-;rcases h9 with h9 | h9
 ·by_cases e:i=j
  ·subst e;exact .inr (hall _ hj)
  ·left;rw [oC,oV,if_neg (Ne.symm e),<- oC];exact h9
 ·exact .inr (hall _ h9)
section
variable {P:Program} {ops O:Array Oper} {Q:Exit->Act->World->Prop} {md:Region.Mode} {S:World->Prop} {z:Nat}
def TkJ (F:Nat->World->Value->Prop) (box:Nat->Bool) (w0:World) (vs:List (Option Value)) (u:World):Prop :=
 aC w0 u/\(∀ j v,vs[j]?=some (some v)->F j u v)/\∀ i j,box i=true->box j=true->i≠j->∀ v v',vs[i]?=some (some v)->vs[j]?=some (some v')->v≠v'
def jD (C:Array Value) (T:TypeId) (w0 u:World) (v:Value):Prop:=∃ g,v=.pointer (some ⟨g,0,none⟩)/\w0.heap.size<=g/\u.heap[g]?=some (.cells C T (0,0))
theorem b6_ (hO:Hid (ops=O)) (ts:List (Nat×Nat)) (deps:List (List Nat)) (box:Nat->Bool) (F:Nat->World->Value->Prop) (w0:World) (m nn:Nat) {l0:Array Bool} {a0:Act} {w:World} (hw:aC w0 w)
  (Bb:nn=ts.length+m) (AY:Z6R md O l0 ts deps m=true) (EW:(ts.map (·.2)).Nodup) (AX:l0.toList.count false=ts.length+m)
  (hS:∀ u,aC w0 u->S u) (hF:∀ j u u' v,F j u v->aC u u'->F j u' v) (GV:∀ j u v,box j=true->F j u v->∃ g,v=.pointer (some ⟨g,0,none⟩)/\g<u.heap.size)
  (hstep:∀ j t o vs u,ts[j]?=some t->ops[t.1]?=some o->TkJ F box w0 vs u->(∀ d∈deps.getD j [],∃ v,vs[d]?=some (some v))->∀ K:Act->World->Prop,
   (∀ v u',F j u' v->aC u u'->(box j=true->v=.pointer (some ⟨u.heap.size,0,none⟩))->K ((cC a0 ts vs).put (some t.2) v) u')->if Region.wanted o (yielded ops (cC a0 ts vs).tmps)=true then Oper.wp P o (cC a0 ts vs) u K Q else K ((cC a0 ts vs).put o.dst undef) u)
  (hend:∀ vs u,vs.length=ts.length->(∀ j,j<ts.length->∃ v,vs[j]?=some (some v))->TkJ F box w0 vs u->bL P md ops Q S z m (dY l0 ts (vs.map Option.isSome)) (cC a0 ts vs) u) :
  bL P md ops Q S z nn l0 a0 w:=by
 have hO:ops=O:=hO;subst hO;subst Bb;have hP:∀ vs:List (Option Value),vs.length=ts.length->lK deps (vs.map Option.isSome)=true->(decide ((dY l0 ts (vs.map Option.isSome)).toList.count false=m)=(vs.map Option.isSome).all id)/\((vs.map Option.isSome).all id=true\/(Region.ready md ops (dY l0 ts (vs.map Option.isSome))≠[]/\∀ i∈Region.ready md ops (dY l0 ts (vs.map Option.isSome)),∃ j,j<ts.length/\(ts.getD j (0,0)).1=i/\(vs.map Option.isSome).getD j true=false/\((deps.getD j []).all fun d=>(vs.map Option.isSome).getD d false)=true)):=fun vs hl hd=>by
  have h9:=List.all_eq_true.1 AY (vs.map Option.isSome) (by have:=e7_ (vs.map Option.isSome);rw [List.length_map,hl] at this;exact this);rw [hd,Bool.not_true,Bool.false_or,Bool.and_eq_true,beq_iff_eq,Bool.or_eq_true,Bool.and_eq_true] at h9;refine ⟨h9.1,?_⟩;rcases h9.2 with h | ⟨h1,h2⟩
  ·exact .inl h
  ·refine .inr ⟨fun e=>(by rw [e] at h1;simp at h1),fun i hi=>?_⟩;obtain ⟨j,hj,h3⟩:=List.any_eq_true.1 (List.all_eq_true.1 h2 i hi);rw [Bool.and_eq_true,Bool.and_eq_true,decide_eq_true_eq,Bool.not_eq_true'] at h3;exact ⟨j,List.mem_range.1 hj,h3.1.1,h3.1.2,h3.2⟩
 refine F6_ (fun l b u=>∃ vs:List (Option Value),vs.length=ts.length/\lK deps (vs.map Option.isSome)=true/\l=dY l0 ts (vs.map Option.isSome)/\b=cC a0 ts vs/\TkJ F box w0 vs u) m ?_ ?_ ?_ ?_ ts.length l0 a0 w AX ?_
 ·rintro l b u ⟨vs,-,-,-,-,hJ⟩;exact hS u hJ.1
 ·rintro l b u ⟨vs,hl,hd,rfl,rfl,hJ⟩ hm;obtain ⟨h1,h2⟩:=hP vs hl hd;rcases h2 with h2 | h2
  ·rw [h2,decide_eq_true_eq] at h1;omega
  ·exact h2.1
 ·rintro l b u i o ⟨vs,hl,hd,rfl,rfl,hJ⟩ hm hi ho K hK;obtain ⟨h1,h2⟩:=hP vs hl hd;rcases h2 with h2 | h2
  ·rw [h2,decide_eq_true_eq] at h1;omega
  ·obtain ⟨j,hj,rfl,Eb,Ec⟩:=h2.2 i hi;have BU:ts[j]?=some (ts.getD j (0,0)):=by rw [oC,n9 hj];rfl
   have Ii:vs[j]?=some none:=by
    rw [oC,oE] at Eb;rw [n9 (by omega)] at Eb |-;cases hq:vs[j]'(by omega) with
    | none=>rfl
    | some v=>rw [hq] at Eb;cases Eb
   refine hstep j _ o vs u BU ho hJ (fun d hd2=>?_) K fun v u' MR hE hb=>?_
   ·have h9:=List.all_eq_true.1 Ec d hd2;rw [oC,oE] at h9;cases hq:vs[d]? with
    | none=>rw [hq] at h9;cases h9
    | some q=>cases q with
     | none=>rw [hq] at h9;cases h9
     | some v=>exact ⟨v,rfl⟩
   ·refine hK _ _ ⟨vs.set j (some v),by rw [List.length_set];exact hl,?_,?_,v1_ v ts vs a0 j _ EW BU Ii,hJ.1.trans hE,fun i v' sG=>?_,fun i i' sR hi2 hne v1 v2 hv1 pt=>?_⟩
    ·rw [List.map_set];exact Z5s hd Ec
    ·rw [List.map_set];exact h1_ ts _ l0 j _ BU (by rw [oE,Ii];rfl)
    ·rw [oV] at sG
     split at sG
     ·rename_i e;subst e;rw [if_pos (by omega)] at sG;cases sG;exact MR
     ·exact hF i u u' v' (hJ.2.1 i v' sG) hE
    ·have JB:∀ q v',box q=true->vs[q]?=some (some v')->v'≠.pointer (some ⟨u.heap.size,0,none⟩):=fun q v' hq sG e=>by
      obtain ⟨g,rfl,hg⟩:=GV q u v' hq (hJ.2.1 q v' sG);simp only [Value.pointer.injEq,Option.some.injEq,Addr.mk.injEq,and_true] at e;omega
     rw [oV] at hv1 pt;by_cases e1:j=i
     ·subst e1;rw [if_pos rfl,if_pos (by omega)] at hv1;rw [if_neg hne] at pt;cases hv1;rw [hb sR];exact fun e=>JB i' v2 hi2 pt e.symm
     ·rw [if_neg e1] at hv1;by_cases e2:j=i'
      ·subst e2;rw [if_pos rfl,if_pos (by omega)] at pt;cases pt;rw [hb hi2];exact JB i v1 sR hv1
      ·rw [if_neg e2] at pt;exact hJ.2.2 i i' sR hi2 hne v1 v2 hv1 pt
 ·rintro l b u ⟨vs,hl,hd,rfl,rfl,hJ⟩ hm;obtain ⟨h1,h2⟩:=hP vs hl hd;rw [hm,oS rfl] at h1;refine hend vs u hl (fun j hj=>?_) hJ;have h9:=List.all_eq_true.1 h1.symm (vs[j]'(by omega)).isSome (List.mem_map.2 ⟨_,List.getElem_mem _,rfl⟩);cases hq:vs[j]'(by omega) with
  | none=>rw [hq] at h9;cases h9
  | some v=>exact ⟨v,by rw [n9 (by omega),hq]⟩
 ·refine ⟨List.replicate ts.length none,by simp,?_,?_,?_,hw,fun j v h=>?_,fun i j _ _ _ v v' h _=>?_⟩
  ·unfold lK;rw [List.all_eq_true];intro j hj;rw [List.map_replicate,oC,List.getElem?_replicate]
   split <;> rfl
  ·rw [List.map_replicate];clear hP hend hstep AX AY EW
   induction ts with
   | nil=>rfl
   | cons t ts ih=>rw [List.length_cons,List.replicate_succ];exact ih
  ·clear hP hend hstep AX AY EW
   induction ts with
   | nil=>rfl
   | cons t ts ih=>rw [List.length_cons,List.replicate_succ];exact ih
  ·rw [List.getElem?_replicate] at h;split at h <;> simp at h
  ·rw [List.getElem?_replicate] at h;split at h <;> simp at h
theorem b3_ {P:Program} {o:Oper} {a:Act} {w:World} {K:Act->World->Prop} {Q:Exit->Act->World->Prop} (f:Nat) (x:Operand) (T:Array TypeId) (ho:o.op=.call { callee:=.value (.func f),args:=#[x],argTypes:=T }) (he:∀ args w,(callFunc f args).run P w=.ok (.enter f args) w) {vx:Value} (hx:a.eval x=vx)
  (h:Calls P f #[vx] w fun e w'=>∃ v,e=.returned v/\K (a.put o.dst v) w'):o.wp P a w K Q:=by
 unfold Oper.wp;have hr:(execOp a.eval o).run P w=.ok (.enter f #[vx]) w:=by
  have hf:a.eval (.func f)=.func (.func f) #[] #[]:=rfl;simp [execOp,ho,resolve,hf,Deferred.ofValue,invoke,hx,he]
 rw [hr,Oper.upon_enter];refine h.mono ?_;rintro e w' ⟨v,rfl,hk⟩;exact hk
end
def kj (n k N:Nat) (X:List Int) (u:World) (v:Value):Prop:=∃ a c,v=.agg #[.int .i64 n,.int .i64 k,.slice a N c]/\aI 1 numC u (.slice a N c) X
def j4 (w0:World) (n k N:Nat) (xm:Value) (CX ML:List Int):Nat->World->Value->Prop
 | 0,_,v=>v=xm
 | 1,u,v=>kj n k N CX u v
 | 2,u,v=>kj n k N ML u v
 | _,u,v=>jD #[.int .i64 0,.int .i64 0,.slice none 0 0] 37 w0 u v
theorem jD.ext {C:Array Value} {T:TypeId} {w0 u u':World} {v:Value} (h:jD C T w0 u v) (he:aC u u'):jD C T w0 u' v:=by
 obtain ⟨g,h1,h2,h3⟩:=h;exact ⟨g,h1,h2,aO h3 he⟩
theorem kj.ext {n k N:Nat} {X:List Int} {u u':World} {v:Value} (h:kj n k N X u v) (he:aC u u'):kj n k N X u' v:=by
 obtain ⟨a,c,h1,h2⟩:=h;exact ⟨a,c,h1,aI.ext numC.mono' h2 he⟩
theorem j4.ext {w0:World} {n k N:Nat} {xm:Value} {CX ML:List Int}:∀ (j:Nat) (u u':World) (v:Value),j4 w0 n k N xm CX ML j u v->aC u u'->j4 w0 n k N xm CX ML j u' v
 | 0,_,_,_,h,_=>h
 | 1,_,_,_,h,he=>kj.ext h he
 | 2,_,_,_,h,he=>kj.ext h he
 | _+3,_,_,_,h,he=>jD.ext h he
theorem j4.box {w0:World} {n k N:Nat} {xm:Value} {CX ML:List Int} (j:Nat) (u:World) (v:Value) (hj:decide (3<=j)=true) (h:j4 w0 n k N xm CX ML j u v):∃ g,v=.pointer (some ⟨g,0,none⟩)/\g<u.heap.size:=by
 obtain ⟨j,rfl⟩:∃ i,j=i+3:=⟨j-3,by have:=of_decide_eq_true hj;omega⟩;obtain ⟨g,h1,h2,h3⟩:jD _ _ _ _ _:=h;exact ⟨g,h1,dS h3⟩
theorem jD.new {C:Array Value} {T:TypeId} {w0 u:World} (h:w0.heap.size<=u.heap.size):jD C T w0 (u.alloc (.cells C T)) (.pointer (some ⟨u.heap.size,0,none⟩)):=⟨_,rfl,h,ic _ _ _⟩
theorem Z1x {α:Type} {vs:List (Option α)} (hl:vs.length=5) (h:∀ j,j<5->∃ v,vs[j]?=some (some v)):∃ a b c d e,vs=[some a,some b,some c,some d,some e]:=by
 rcases vs with _ | ⟨v0,_ | ⟨v1,_ | ⟨v2,_ | ⟨v3,_ | ⟨v4,_ | ⟨v5,vs⟩⟩⟩⟩⟩⟩ <;> simp at hl
 obtain ⟨a,ha⟩:=h 0 (by omega);obtain ⟨b,hb⟩:=h 1 (by omega);obtain ⟨c,hc⟩:=h 2 (by omega);obtain ⟨d,hd⟩:=h 3 (by omega);obtain ⟨e,he⟩:=h 4 (by omega);simp at ha hb hc hd he;exact ⟨a,b,c,d,e,by rw [ha,hb,hc,hd,he]⟩
theorem Z0S (x y z0 z1 z2 z3 z4 z5:Int) (w:World) (hx:0<=x/\x<=255) (hy:0<=y/\y<=255) (hz:∀ a∈[z0,z1,z2,z3,z4,z5],-128<=a/\a<=127) (pj:iV w) (hb:4<w.heap.size) :
  oW 7 #[.agg #[.int .u8 x,.int .u8 y,.int .i8 z0,.int .i8 z1,.int .i8 z2,.int .i8 z3,.int .i8 z4,.int .i8 z5]] w (.bool true):=by
 obtain ⟨n,hn⟩:∃ n:Nat,(n:Int)=x.tmod 5:=⟨(x.tmod 5).toNat,by rw [Int.toNat_of_nonneg (Int.tmod_nonneg _ hx.1)]⟩;have Bc:n<5:=by have:=Int.tmod_lt_of_pos x (show (0:Int)<5 by decide);omega
 obtain ⟨k,hk⟩:∃ k:Nat,(k:Int)=y.tmod ((n:Int)+1):=⟨(y.tmod ((n:Int)+1)).toNat,by rw [Int.toNat_of_nonneg (Int.tmod_nonneg _ hy.1)]⟩;have hkn:k<=n:=by
  have h1:=Int.tmod_lt_of_pos y (show 0<(n:Int)+1 by omega);omega
 obtain ⟨N,hN⟩:∃ N,(aJ n k).length=N:=⟨_,rfl⟩;have h6:=h5_ n Bc k (by omega);rw [hN] at h6;obtain ⟨X,hX⟩:∃ X,[z0,z1,z2,z3,z4,z5].take N=X:=⟨_,rfl⟩;have tH:X.length=N:=by rw [<- hX,oF];simp;omega
 have Gc:∀ a∈X,a.natAbs<=128:=fun a ha=>by
  rw [<- hX] at ha;have:=hz a (List.mem_of_mem_take ha);omega
 have Gk:eB n k X:=⟨by omega,hkn,by rw [tH,hN],fun x hx=>Nat.lt_of_le_of_lt (Gc x hx) (by decide +kernel)⟩;obtain ⟨is,E,l,Ju,Jo,Jd,DX⟩:=Z4J Bc hkn (by rw [tH,hN]) Gc (by decide);have Eu:Hid (∀ W,aC w W->Calls prog 27 #[.agg #[.int .u8 x,.int .u8 y,.int .i8 z0,.int .i8 z1,.int .i8 z2,.int .i8 z3,.int .i8 z4,.int .i8 z5],.int .i64 (-1)] W fun e w'=>∃ a c,e=.returned (.agg #[.int .i64 n,.int .i64 k,.slice a N c])/\aI 1 numC w' (.slice a N c) X/\aC W w'):=fun W hW=>by
  have h9:=Z0d x y (-1) z0 z1 z2 z3 z4 z5 n k hx hy hz Bc (.inr ⟨rfl,hn.symm⟩) hk W (pj.pow.ext hW);rw [hN,hX] at h9;exact h9
 have HKN:Hid (∀ W,aC w W->oW 13 #[] W (.bool true)):=fun W hW=>l8_ W (pj.ext hW) (oH hb hW.size);have CM:Hid (∀ W a c,aC w W->aI 1 numC W (.slice a N c) X->oW 35 #[.agg #[.int .i64 n,.int .i64 k,.slice a N c]] W (.tuple #[.bool is,.int .i64 0])):=fun W a c hW hv=>Ju _ W ⟨_,rfl,hv⟩ (pj.ext hW) (oH hb hW.size);have HLA:Hid (∀ W a c,aC w W->aI 1 numC W (.slice a N c) X->Calls prog 36 #[.agg #[.int .i64 n,.int .i64 k,.slice a N c]] W fun e w'=>∃ av cv,e=.returned (.tuple #[.slice av l.length cv,.int .i64 E])/\bQ w' (.slice av l.length cv) l/\aC W w'):=fun W a c hW hv=>Jo _ W ⟨_,rfl,hv⟩ (pj.ext hW) (oH hb hW.size);have B8:Hid (∀ W a c,aC w W->aI 1 numC W (.slice a N c) X->oW 37 #[.agg #[.int .i64 n,.int .i64 k,.slice a N c]] W (.bool is)):=fun W a c hW hv=>Jd _ W ⟨_,rfl,hv⟩ (pj.pow.ext hW);have qc:Hid (∀ W a c,aC w W->aI 1 numC W (.slice a N c) X->oW 38 #[.agg #[.int .i64 n,.int .i64 k,.slice a N c]] W (.bool (decide (az X=0)))):=fun W a c hW hv=>W3_ n k X _ W hv Gk.dig (pj.pow.ext hW);have HRX:=n8 Gk;have HLIB:=n8 pj;have HALL:=n8 DX;have hRN:=tH;have HXL:=n8 tH;have Hl:Hid (N=(aJ n k).length):=hN.symm;have HN5:=n8 Bc;obtain ⟨w1,o4,hE1,hs1,hb1⟩:=Z6J w #[.int .u8 x,.int .u8 y,.int .i8 z0,.int .i8 z1,.int .i8 z2,.int .i8 z3,.int .i8 z4,.int .i8 z5] 49;have HE1:=n8 hE1;have HBA:=n8 hb1;clear hb1 hE1 hs1 hx hy hz hn hk hN hX tH Gc Gk pj hb Ju Jo Jd DX hRN h6
 go_enter func7,ntmps7
 go_wp2_with fail;refine (HKN w1 HE1).mono ?_;rintro e w3 ⟨rfl,oh⟩;have HE3:Hid (aC w w3):=HE1.trans oh;have s0:=aN (aO HBA oh);clear oh HKN o4;go_wp2_with fail;refine (Eu w3 HE3).mono ?_;rintro e w4 ⟨a,c,rfl,vn,hE4⟩;have HE4:Hid (aC w w4):=HE3.trans hE4;have HR:=n8 vn;clear hE4 vn Eu s0;obtain ⟨V1,Ge,vN,hs1,hb1⟩:=eF w4 (.int .i64 0) (.int .i64 0) (.slice none 0 0);have r0:=aN hb1;have f0:=cD hb1;have HB:=n8 (gV hb1 (.int .i64 n) (.int .i64 k) (.slice a N c));have HX1:=n8 (dW (B:=w4.heap.size) vN (oJ _) (.int .i64 n) (.int .i64 k) (.slice a N c));obtain ⟨U1,DM⟩:∃ U,((V1.setCell ⟨w4.heap.size,0,none⟩ (.int .i64 n)).setCell ⟨w4.heap.size,1,none⟩ (.int .i64 k)).setCell ⟨w4.heap.size,2,none⟩ (.slice a N c)=U:=⟨_,rfl⟩;rw [DM] at HB HX1;clear vN hs1 hb1;have KX:Hid (aC w U1):=HE4.trans HX1;have HR:=n8 (aI.ext numC.mono' HR HX1);have s1:=aN HB;go_wp2_with fail;clear DM Ge r0 f0;refine (CM _ _ _ KX HR).mono ?_;rintro e w5 ⟨rfl,om⟩;have D1:Hid (aC w w5):=KX.trans om;have HB:=n8 (aO HB om);have HR:=n8 (aI.ext numC.mono' HR om);clear om s1;have s1:=aN HB;go_wp2_with fail;refine (HLA _ _ _ D1 HR).mono ?_;rintro e w6 ⟨a6,c6,rfl,Bv,om⟩;have IH:Hid (aC w w6):=D1.trans om;have HB:=n8 (aO HB om);have HR:=n8 (aI.ext numC.mono' HR om);have HL:=n8 Bv;clear Bv;clear om s1;have s1:=aN HB;obtain ⟨a7,c7,tD,l1,l2,-,l3⟩:=bT.open HL;simp only [Value.slice.injEq,true_and] at tD;obtain ⟨rfl,rfl⟩:=tD;unfold maxLen at l2;obtain ⟨lk,hlk⟩:∃ L,l.length=L:=⟨_,rfl⟩;have HLK:=n8 hlk;rw [hlk] at HL l1 |-;clear hlk l3;have q0:(is != is)=false:=bne_self_eq_false _;go_wp2_with fail;refine (U7_ _ _ _ _ _ _).mono ?_;rintro e w7 ⟨rfl,om⟩;have D0:Hid (aC w w7):=IH.trans om;have HB:=n8 (aO HB om);have HR:=n8 (aI.ext numC.mono' HR om);have HL:=n8 (HL.ext om);clear om s1;have s1:=aN HB;go_wp2_with fail;refine (B8 _ _ _ D0 HR).mono ?_;rintro e w8 ⟨rfl,om⟩;have IG:Hid (aC w w8):=D0.trans om;have HB:=n8 (aO HB om);have HR:=n8 (aI.ext numC.mono' HR om);have HL:=n8 (HL.ext om);clear om s1;have s1:=aN HB;go_wp2_with fail;refine (U7_ _ _ _ _ _ _).mono ?_;rintro e w9 ⟨rfl,om⟩;have Dz:Hid (aC w w9):=IG.trans om;have HB:=n8 (aO HB om);have HR:=n8 (aI.ext numC.mono' HR om);have HL:=n8 (HL.ext om);clear om s1;go_wp2_with fail;refine (qc _ _ _ Dz HR).mono ?_;rintro e wA ⟨rfl,om⟩;have vC:Hid (aC w wA):=Dz.trans om;have HB:=n8 (aO HB om);have HR:=n8 (aI.ext numC.mono' HR om);have HL:=n8 (HL.ext om);clear om;have hA:=HALL.out;rcases hA with ⟨h0,rfl,rfl,rfl⟩ | ⟨h0,rfl,rfl,rfl⟩ | ⟨h0,rfl,rfl,Gs⟩
 ·obtain rfl:lk=0:=HLK.symm;rw [oS h0];clear h0 HALL HLK q0;go_wp2_with fail;go_ret;exact ⟨rfl,vC⟩
 ·obtain rfl:lk=0:=HLK.symm;rw [oR h0];clear h0 HALL HLK q0;go_wp2_with fail;go_ret;exact ⟨rfl,vC⟩
 ·rw [oR h0];obtain ⟨Ct,JY,Bt,hHB,Jw,Jx,Jb⟩:=Gs;obtain rfl:lk=k:=by rw [<- HLK.out];exact Ct
  have HTE:=n8 JY;have HLN:=n8 Bt;have HHB:=n8 hHB;have HCT:=n8 Jw;have HCN:=n8 Jx;have HRM:=n8 Jb;clear h0 HALL Ct JY Bt hHB Jw Jx Jb q0;have HCK:Hid (∀ W,aC wA W->oW 14 #[.slice a6 lk c6] W (.int .i64 0)):=fun W hW=>by
   have h9:=p7_ l _ W (HL.ext hW);rw [HTE.out] at h9;exact h9
  have CG:Hid (∀ W,aC wA W->oW 39 #[.slice a6 lk c6] W (.tuple #[.bool true,.int .i64 0])):=fun W hW=>by
   have h9:=l5_ l _ n W (HL.ext hW) HTE HLN;rw [HHB.out] at h9;exact h9
  obtain ⟨ML,Al⟩:∃ M,dQ l lk=M:=⟨_,rfl⟩;have Ek:ML.length=N:=by rw [<- Al,HRM.out.len,<- Hl.out]
  have Hm:Hid (∀ W,aC wA W->Calls prog 19 #[.slice a6 lk c6,.int .i64 n] W fun e w'=>∃ a c,e=.returned (.agg #[.int .i64 n,.int .i64 lk,.slice a N c])/\aI 1 numC w' (.slice a N c) ML/\aC W w'):=fun W hW=>by
   have h9:=H2_ l n _ W (HL.ext hW) HTE HLN (by rw [HLK.out];exact HRX.kn) (HLIB.pow.ext (vC.trans hW));rw [HLK.out,Al,Ek] at h9;exact h9
  obtain ⟨CX,En⟩:∃ C,cO X=C:=⟨_,rfl⟩;have Bx:CX.length=N:=by rw [<- En,A1_,HXL.out]
  have HCA:Hid (∀ W a c,aC wA W->aI 1 numC W (.slice a N c) X->Calls prog 40 #[.agg #[.int .i64 n,.int .i64 lk,.slice a N c]] W fun e w'=>∃ a5 c5,e=.returned (.agg #[.int .i64 n,.int .i64 lk,.slice a5 N c5])/\aI 1 numC w' (.slice a5 N c5) CX/\aC W w'):=fun W a c hW hv=>by
   refine (U1_ (by have:=HN5.out;omega) HRX _ W hv (HLIB.pow.ext (vC.trans hW))).mono fun e w' ⟨y,h1,h2,h3⟩=>?_;obtain ⟨a5,c5,rfl,h4⟩:=nQ h3;rw [En,Bx] at h1 h4;exact ⟨a5,c5,h1,h4,h2⟩
  have HCB:Hid (∀ W a c,aC wA W->aI 1 numC W (.slice a N c) ML->Calls prog 40 #[.agg #[.int .i64 n,.int .i64 lk,.slice a N c]] W fun e w'=>∃ a5 c5,e=.returned (.agg #[.int .i64 n,.int .i64 lk,.slice a5 N c5])/\aI 1 numC w' (.slice a5 N c5) CX/\aC W w'):=fun W a c hW hv=>by
   refine (U1_ (by have:=HN5.out;omega) (by rw [<- Al];exact HRM) _ W hv (HLIB.pow.ext (vC.trans hW))).mono fun e w' ⟨y,h1,h2,h3⟩=>?_;obtain ⟨a5,c5,rfl,h4⟩:=nQ h3;rw [<- Al,<- HCN.out,En,Bx] at h1 h4;exact ⟨a5,c5,h1,h4,h2⟩
  have HCO:Hid (∀ W a c,aC wA W->aI 1 numC W (.slice a N c) ML->oW 41 #[.agg #[.int .i64 n,.int .i64 lk,.slice a N c]] W (.string ⟨#[49]⟩)):=fun W a c hW hv=>by
   have h9:=Z6_ n lk ML _ W hv (by rw [<- Al];exact HRM.dig) (HLIB.pow.ext (vC.trans hW));rw [<- Al,HCT.out,show aD ((1:Nat):Int)=⟨#[49]⟩ by decide +kernel] at h9;exact h9
  have vR:Hid (∀ W a5 c5 a6 c6,aI 1 numC W (.slice a5 N c5) CX->aI 1 numC W (.slice a6 N c6) CX->oW 17 #[.agg #[.int .i64 n,.int .i64 lk,.slice a5 N c5],.agg #[.int .i64 n,.int .i64 lk,.slice a6 N c6]] W (.bool true)):=fun W a5 c5 a6 c6 h1 h2=>by
   have h9:=o1_ n lk CX n lk CX _ _ W ⟨_,rfl,h1⟩ ⟨_,rfl,h2⟩;rw [show gQ n lk CX n lk CX=true by unfold gQ;simp] at h9;exact h9
  clear Al Ek En Bx;have d0:=aN HB 0;have d1:=aN HB 1;simp only [oQ,oO,oP] at d0 d1
  go_upto_region 12 with fail
  go_cut [81] from 54 to 81 (fun Kl wx=>Kl=.bool false/\Hid (aC wA wx))
  case first =>
   by_cases h0:lk=0
   ·subst h0
    go_upto_region 12 with fail
    refine fX (fun w'=>w'.cell? ⟨w4.heap.size,0,none⟩=some (.int .i64 n)/\w'.cell? ⟨w4.heap.size,1,none⟩=some (.int .i64 ((0:Nat):Int))/\Hid (aC wA w')) 28 28 (by kernel_rfl) (by kernel_rfl) ⟨(aC.drew wA).cell d0,(aC.drew wA).cell d1,aC.drew wA⟩ (fun ops hO oX=>?_);refine rA [0,1,2,3,4,5,6,7,8,9,10] ?_
    iterate 11 (refine rS hO (by decide) fun o h=>?_;(conv at h=>lhs;whnf);subst h;(refine rY hO (v:=?_) (Or.inl ⟨by rfl,?_⟩) ?_;rotate_left;·((intro w' oz);(try dsimp only at oz);(try go_simp);(try with_reducible rfl)));(try simp only [Act.put,aK,aL,aM]))
    refine rE ?_;have hi:=a8 hO 11 (by decide)
    conv at hi=>rhs;arg 1;whnf
    refine dK hO 11 (by kernel_rfl) hi (fun K hK=>?_);go_simp
    (go_at_call 14;refine (HCK _ (oX.2.2)).mono ?_)
    rintro e wz ⟨rfl,om⟩;go_wp2_with fail;refine hK _ _ ⟨(om).cell oX.1,(om).cell oX.2.1,aC.trans oX.2.2 (om)⟩ (fun oX=>?_);clear hK K hi
    (try simp only [Act.put,aK,aL,aM])
    refine rA [12,13,14,15,16,17,18,19,20,21,22,23,24,25,26] ?_
    iterate 15 (refine rS hO (by decide) fun o h=>?_;(conv at h=>lhs;whnf);subst h;(first|(refine rX hO (v:=?_) (Or.inl ⟨by rfl,?_⟩) ?_;rotate_left;·((intro w');(try go_simp);(try with_reducible rfl)))|(refine rX hO (v:=undef) (Or.inr ⟨by rfl,rfl⟩) ?_));(try simp only [Act.put,aK,aL,aM]))
    refine rE ?_;have HWB:Hid (aC wA _):=oX.2.2.out;have hi:=a8 hO 27 (by decide)
    conv at hi=>rhs;arg 1;whnf
    refine fp hO 27 (by kernel_rfl) (by kernel_rfl) hi (fun K hK=>?_);go_simp;refine hK _ _ (by assumption) ?_;clear hK K hi hO
    (try simp only [Act.put,aK,aL,aM])
    go_wp2_with fail;go_meet;exact ⟨rfl,HWB⟩
   ·have LV:0<lk:=Nat.pos_of_ne_zero h0;have Fo:(0:Int)<(lk:Int):=by omega
    have hlk2:=oS Fo;obtain ⟨r,hr⟩:∃ r,l[0]?=some r:=⟨_,n9 (by rw [HLK.out];omega)⟩;obtain ⟨a7,c7,tD,-,-,-,l3⟩:=bT.open HL;simp only [Value.slice.injEq] at tD;obtain ⟨rfl,-,rfl⟩:=tD;obtain ⟨b6,o6,rfl,-,hcell⟩:=l3 (by intro e;rw [e] at hr;cases hr);obtain ⟨vr,qu,d2⟩:=hcell 0 r hr;obtain ⟨ar,cr,rfl,-⟩:=aI.open qu;rw [HLN.out r (oD hr)] at d2;rw [Nat.add_zero] at d2;clear l3 hcell qu hr h0
    go_upto_region 12 with fail
    refine fX (fun w'=>w'.cell? ⟨w4.heap.size,0,none⟩=some (.int .i64 n)/\w'.cell? ⟨w4.heap.size,1,none⟩=some (.int .i64 lk)/\w'.cell? ⟨b6,o6,none⟩=some (.slice ar n cr)/\Hid (aC wA w')) 28 28 (by kernel_rfl) (by kernel_rfl) ⟨(aC.drew wA).cell d0,(aC.drew wA).cell d1,(aC.drew wA).cell d2,aC.drew wA⟩ (fun ops hO oX=>?_);refine rA [0,1,2,3,4,5,6,7,8,9,10] ?_
    iterate 11 (refine rS hO (by decide) fun o h=>?_;(conv at h=>lhs;whnf);subst h;(refine rY hO (v:=?_) (Or.inl ⟨by rfl,?_⟩) ?_;rotate_left;·((intro w' oz);(try dsimp only at oz);(try go_simp);(try with_reducible rfl)));(try simp only [Act.put,aK,aL,aM]))
    refine rE ?_;have hi:=a8 hO 11 (by decide)
    conv at hi=>rhs;arg 1;whnf
    refine dK hO 11 (by kernel_rfl) hi (fun K hK=>?_);go_simp
    (go_at_call 14;refine (HCK _ (oX.2.2.2)).mono ?_)
    rintro e wz ⟨rfl,om⟩;go_wp2_with fail;refine hK _ _ ⟨(om).cell oX.1,(om).cell oX.2.1,(om).cell oX.2.2.1,aC.trans oX.2.2.2 (om)⟩ (fun oX=>?_);clear hK K hi
    (try simp only [Act.put,aK,aL,aM])
    refine rA [12,13,14,15,16,17,18,19,20,21,22,23,24,25,26] ?_
    iterate 15 (refine rS hO (by decide) fun o h=>?_;(conv at h=>lhs;whnf);subst h;(refine rY hO (v:=?_) (Or.inl ⟨by rfl,?_⟩) ?_;rotate_left;·((intro w' oz);(try dsimp only at oz);(try go_simp);(try with_reducible rfl)));(try simp only [Act.put,aK,aL,aM]))
    refine rE ?_;have HWB:Hid (aC wA _):=oX.2.2.2.out;have hi:=a8 hO 27 (by decide)
    conv at hi=>rhs;arg 1;whnf
    refine fp hO 27 (by kernel_rfl) (by kernel_rfl) hi (fun K hK=>?_);go_simp;refine hK _ _ (by assumption) ?_;clear hK K hi hO
    (try simp only [Act.put,aK,aL,aM])
    go_wp2_with fail;go_meet;exact ⟨rfl,HWB⟩
  case rest =>
  obtain ⟨rfl,HXB⟩:=hcut;obtain ⟨wB,rfl⟩:∃ wB:World,wB=wc:=⟨_,rfl⟩;clear HCK d0 d1;go_wp2_with fail;refine (CG wB HXB).mono ?_;rintro e wC ⟨rfl,om⟩;have HXC:Hid (aC wA wC):=HXB.trans om;have HBC:=n8 (aO HB HXC);clear om CG
  go_upto_region 15 with fail
  refine fX (fun w'=>Hid (w'.heap[w4.heap.size]?=some (.cells #[.int .i64 n,.int .i64 lk,.slice a N c] 31 (0,0)))/\Hid (aC wC w')) 11 11 (by kernel_rfl) (by kernel_rfl) ⟨aO HBC (aC.drew wC),aC.drew wC⟩ (fun ops hO oX=>?_);have hi:=a8 hO 0 (by decide)
  conv at hi=>rhs;arg 1;whnf
  refine tY hO (v:=?_) 0 hi (Or.inl ⟨by rfl,?_⟩) ?_;rotate_left
  ·((intro w' oz);(try dsimp only at oz);have sb:=aN oz.1.out;(try go_simp);(try with_reducible rfl))
  clear hi
  (try simp only [Act.put,aK,aL,aM])
  refine rA [3,4] ?_
  iterate 2 (refine rS hO (by decide) fun o h=>?_;(conv at h=>lhs;whnf);subst h;(refine rX hO (v:=?_) (Or.inl ⟨by rfl,?_⟩) ?_;rotate_left;·((intro w');(try go_simp);(try with_reducible rfl)));(try simp only [Act.put,aK,aL,aM]))
  refine rE ?_;have hi:=a8 hO 5 (by decide)
  conv at hi=>rhs;arg 1;whnf
  refine tY hO (v:=?_) 5 hi (Or.inl ⟨by rfl,?_⟩) ?_;rotate_left
  ·((intro w' oz);(try dsimp only at oz);have sb:=aN oz.1.out;(try go_simp);(try with_reducible rfl))
  clear hi
  (try simp only [Act.put,aK,aL,aM])
  have OQ:Hid (wC.heap.size<=wC.drew.heap.size):=(aC.drew wC).size;refine Z11 (fun a0 xS=>?_);have CY:a0.tmps.size=112:=by rw [xS];rfl
  have KB:a0.eval (.tmp 87)=.agg #[.int .i64 n,.int .i64 lk,.slice a N c]:=by rw [xS];simp [Act.eval]
  have KA:a0.eval (.tmp 90)=.slice a6 lk c6:=by rw [xS];simp [Act.eval]
  have J9:a0.eval (.tmp 92)=.int .i64 n:=by rw [xS];simp [Act.eval]
  refine b6_ hO [(1,88),(2,89),(6,93),(7,10),(8,11)] [[],[0],[1],[],[]] (fun j=>decide (3<=j)) (j4 wC n lk N (.agg #[.int .i64 n,.int .i64 lk,.slice a N c]) CX ML) wC 2 7 (aC.drew wC) (by rfl) (by kernel_rfl) (by decide) (by rfl) (fun u hu=>⟨aO HBC hu,hu⟩) j4.ext j4.box ?hstep ?hend
  case hstep =>
   rintro j t o vs u ht ho hJ hd K hK;have Hd:Hid (aC wA u):=HXC.trans hJ.1;rcases j with _ | _ | _ | _ | _ | j
   ·obtain rfl:(1,88)=t:=oL ht;have hi:=a8 hO 1 (by decide)
    conv at hi=>rhs;arg 1;whnf
    obtain rfl:=oL (ho.symm.trans hi);clear hi ho;rw [if_pos (by rfl)];refine b3_ 23 _ _ rfl (enters_of func23 (by kernel_rfl) rfl) ((ny _ _ _ (by decide)).trans KB) ((U7_ _ _ _ _ _ u).mono ?_);rintro e u2 ⟨rfl,hE⟩;exact ⟨_,rfl,hK _ _ rfl hE (fun h=>by cases h)⟩
   ·obtain rfl:(2,89)=t:=oL ht;have hi:=a8 hO 2 (by decide)
    conv at hi=>rhs;arg 1;whnf
    obtain rfl:=oL (ho.symm.trans hi);clear hi ho;rw [if_pos (by rfl)];obtain ⟨v0,sF⟩:=hd 0 (List.mem_singleton.2 rfl);obtain rfl:v0=.agg #[.int .i64 n,.int .i64 lk,.slice a N c]:=hJ.2.1 0 v0 sF;refine b3_ 40 _ _ rfl (enters_of func40 (by kernel_rfl) rfl) (Z5I (t:=(1,88)) (by decide) rfl sF (by rw [CY];decide)) ((HCA u _ _ Hd (aI.ext numC.mono' HR Hd)).mono ?_);rintro e u2 ⟨a5,c5,rfl,h5,hE⟩;exact ⟨_,rfl,hK _ _ ⟨_,_,rfl,h5⟩ hE (fun h=>by cases h)⟩
   ·obtain rfl:(6,93)=t:=oL ht;have hi:=a8 hO 6 (by decide)
    conv at hi=>rhs;arg 1;whnf
    obtain rfl:=oL (ho.symm.trans hi);clear hi ho;rw [if_pos (by rfl)];refine Z4L 19 _ _ _ rfl (enters_of func19 (by kernel_rfl) rfl) ((ny _ _ _ (by decide)).trans KA) ((ny _ _ _ (by decide)).trans J9) ((Hm u Hd).mono ?_);rintro e u2 ⟨a5,c5,rfl,h5,hE⟩;exact ⟨_,rfl,hK _ _ ⟨_,_,rfl,h5⟩ hE (fun h=>by cases h)⟩
   ·obtain rfl:(7,10)=t:=oL ht;have hi:=a8 hO 7 (by decide)
    conv at hi=>rhs;arg 1;whnf
    obtain rfl:=oL (ho.symm.trans hi);clear hi ho;rw [if_pos (by rfl)];generalize cC a0 _ vs=b9 at hK |-;go_simp;exact hK _ _ (jD.new hJ.1.size) (aC.alloc _ _) (fun _=>rfl)
   ·obtain rfl:(8,11)=t:=oL ht;have hi:=a8 hO 8 (by decide)
    conv at hi=>rhs;arg 1;whnf
    obtain rfl:=oL (ho.symm.trans hi);clear hi ho;rw [if_pos (by rfl)];generalize cC a0 _ vs=b9 at hK |-;go_simp;exact hK _ _ (jD.new hJ.1.size) (aC.alloc _ _) (fun _=>rfl)
   ·simp at ht
  case hend =>
   rintro vs u hl hall hJ;obtain ⟨v0,v1,v2,v3,v4,rfl⟩:=Z1x hl hall;obtain ⟨a1,c1,rfl,hL1⟩:=hJ.2.1 1 v1 rfl;obtain ⟨a2,c2,rfl,hL2⟩:=hJ.2.1 2 v2 rfl;obtain ⟨g3,rfl,qi,J1⟩:=hJ.2.1 3 v3 rfl;obtain ⟨g4,rfl,sn,J0⟩:=hJ.2.1 4 v4 rfl;have hne:g3≠g4:=fun e=>hJ.2.2 3 4 (by rfl) (by rfl) (by decide) _ _ rfl rfl (by rw [e]);have HU:Hid (aC wC u):=hJ.1;have HB3:=n8 J1;have HB4:=n8 J0;have HL1:=n8 hL1;have HL2:=n8 hL2;have HG3:Hid (wC.heap.size<=g3):=qi;have BI:Hid (wC.heap.size<=g4):=sn;clear hl hall hJ hL1 hL2 J1 J0 qi sn;simp only [cC];rw [xS];clear KB KA J9 CY xS
   (try simp only [Act.put,aK,aL,aM])
   have kk:=aN HB3;have ff:=cD HB3;have hi:=a8 hO 9 (by decide)
   conv at hi=>rhs;arg 1;whnf
   refine dK hO 9 (by kernel_rfl) hi (fun K hK=>?_);go_simp;generalize vU:World.setCell _ _ _=ua;have A2:Hid (aC wC ua):=by rw [<- vU];exact dW HU HG3 _ _ _
   have zq:Hid (ua.heap[g3]?=some (.cells #[.int .i64 n,.int .i64 lk,.slice a1 N c1] 37 (0,0))):=by rw [<- vU];exact gu HB3 _ _ _
   have sD:Hid (ua.heap[g4]?=some (.cells #[.int .i64 0,.int .i64 0,.slice none 0 0] 37 (0,0))):=by rw [<- vU];exact L8_ HB4 (en _ _ _ _ _) (fun e=>hne (oL e))
   have zl:Hid (aI 1 numC ua (.slice a1 N c1) CX):=by rw [<- vU];exact gZ HL1 HB3 (gU 0 0) (en _ _ _ _ _)
   have zk:Hid (aI 1 numC ua (.slice a2 N c2) ML):=by rw [<- vU];exact gZ HL2 HB3 (gU 0 0) (en _ _ _ _ _)
   clear vU kk ff;refine hK _ _ ⟨aO HBC A2,A2⟩ (fun oX=>?_);clear hK K hi
   (try simp only [Act.put,aK,aL,aM])
   have kk:=aN sD;have ff:=cD sD;have hi:=a8 hO 10 (by decide)
   conv at hi=>rhs;arg 1;whnf
   refine fp hO 10 (by kernel_rfl) (by kernel_rfl) hi (fun K hK=>?_);go_simp;generalize vU:World.setCell _ _ _=ub;have A1:Hid (aC wC ub):=by rw [<- vU];exact dW A2 BI _ _ _
   have D9:Hid (ub.heap[g4]?=some (.cells #[.int .i64 n,.int .i64 lk,.slice a2 N c2] 37 (0,0))):=by rw [<- vU];exact gu sD _ _ _
   have EA:Hid (ub.heap[g3]?=some (.cells #[.int .i64 n,.int .i64 lk,.slice a1 N c1] 37 (0,0))):=by rw [<- vU];exact L8_ zq (en _ _ _ _ _) (fun e=>hne (oL e).symm)
   have Dw:Hid (aI 1 numC ub (.slice a1 N c1) CX):=by rw [<- vU];exact gZ zl sD (gU 0 0) (en _ _ _ _ _)
   have zj:Hid (aI 1 numC ub (.slice a2 N c2) ML):=by rw [<- vU];exact gZ zk sD (gU 0 0) (en _ _ _ _ _)
   clear vU kk ff;refine hK _ _ ⟨aO HBC A1,A1⟩ ?_;clear hK K hi hO
   (try simp only [Act.put,aK,aL,aM])
   clear HU HG3 BI HB3 HB4 HL1 HL2 zq sD zl zk oX;have xZ:Hid (aC wA ub):=HXC.trans A1
   go_upto_region 16 with fail
   refine fX (fun w'=>Hid (w'.heap[g3]?=some (.cells #[.int .i64 n,.int .i64 lk,.slice a1 N c1] 37 (0,0)))/\Hid (w'.heap[g4]?=some (.cells #[.int .i64 n,.int .i64 lk,.slice a2 N c2] 37 (0,0)))/\Hid (aC ub w')) 19 19 (by kernel_rfl) (by kernel_rfl) ⟨aO EA (aC.drew ub),aO D9 (aC.drew ub),aC.drew ub⟩ (fun ops hO oX=>?_);refine rA [0,1,2,3,4,5] ?_
   iterate 6 (refine rS hO (by decide) fun o h=>?_;(conv at h=>lhs;whnf);subst h;(refine rX hO (v:=?_) (Or.inl ⟨by rfl,?_⟩) ?_;rotate_left;·((intro w');(try go_simp);(try with_reducible rfl)));(try simp only [Act.put,aK,aL,aM]))
   refine rE ?_;have hi:=a8 hO 6 (by decide)
   conv at hi=>rhs;arg 1;whnf
   refine tY hO (v:=?_) 6 hi (Or.inl ⟨by rfl,?_⟩) ?_;rotate_left
   ·((intro w' oz);(try dsimp only at oz);have sb:=aN oz.1.out;have sc:=aN oz.2.1.out;(try go_simp);(try with_reducible rfl))
   clear hi
   (try simp only [Act.put,aK,aL,aM])
   have hi:=a8 hO 7 (by decide)
   conv at hi=>rhs;arg 1;whnf
   refine dK hO 7 (by kernel_rfl) hi (fun K hK=>?_);go_simp
   (go_at_call 41;refine (HCO _ _ _ (xZ.trans oX.2.2) (aI.ext numC.mono' zj oX.2.2)).mono ?_)
   rintro e wz ⟨rfl,om⟩;go_wp2_with fail;refine hK _ _ ⟨aO oX.1 om,aO oX.2.1 om,aC.trans oX.2.2 om⟩ (fun oX=>?_);clear hK K hi
   (try simp only [Act.put,aK,aL,aM])
   refine rA [8,9,10] ?_
   iterate 3 (refine rS hO (by decide) fun o h=>?_;(conv at h=>lhs;whnf);subst h;(refine rX hO (v:=?_) (Or.inl ⟨by rfl,?_⟩) ?_;rotate_left;·((intro w');(try go_simp);(try with_reducible rfl)));(try simp only [Act.put,aK,aL,aM]))
   refine rE ?_;have hi:=a8 hO 11 (by decide)
   conv at hi=>rhs;arg 1;whnf
   refine tY hO (v:=?_) 11 hi (Or.inl ⟨by rfl,?_⟩) ?_;rotate_left
   ·((intro w' oz);(try dsimp only at oz);have sb:=aN oz.1.out;have sc:=aN oz.2.1.out;(try go_simp);(try with_reducible rfl))
   clear hi
   (try simp only [Act.put,aK,aL,aM])
   have hi:=a8 hO 13 (by decide)
   conv at hi=>rhs;arg 1;whnf
   refine tY hO (v:=?_) 13 hi (Or.inl ⟨by rfl,?_⟩) ?_;rotate_left
   ·((intro w' oz);(try dsimp only at oz);have sb:=aN oz.1.out;have sc:=aN oz.2.1.out;(try go_simp);(try with_reducible rfl))
   clear hi
   (try simp only [Act.put,aK,aL,aM])
   have hi:=a8 hO 12 (by decide)
   conv at hi=>rhs;arg 1;whnf
   refine dK hO 12 (by kernel_rfl) hi (fun K hK=>?_);go_simp
   (go_at_call 18;refine (J9_ _ _ _ _ _ _).mono ?_)
   rintro e E0 ⟨rfl,om⟩;go_wp2_with fail;refine hK _ _ ⟨aO oX.1 om,aO oX.2.1 om,aC.trans oX.2.2 om⟩ (fun oX=>?_);clear hK K hi
   (try simp only [Act.put,aK,aL,aM])
   have hi:=a8 hO 14 (by decide)
   conv at hi=>rhs;arg 1;whnf
   refine dK hO 14 (by kernel_rfl) hi (fun K hK=>?_);go_simp
   (go_at_call 40;refine (HCB _ _ _ (xZ.trans oX.2.2) (aI.ext numC.mono' zj oX.2.2)).mono ?_)
   rintro e NM ⟨a7,c7,rfl,Bu,om⟩;have HL7:=n8 Bu;clear Bu;go_wp2_with fail;refine hK _ _ ⟨aO oX.1 om,aO oX.2.1 om,aC.trans oX.2.2 om⟩ (fun oX=>?_);clear hK K hi
   (try simp only [Act.put,aK,aL,aM])
   have hi:=a8 hO 15 (by decide)
   conv at hi=>rhs;arg 1;whnf
   refine dK hO 15 (by kernel_rfl) hi (fun K hK=>?_);go_simp
   (go_at_call 18;refine (J9_ _ _ _ _ _ _).mono ?_)
   rintro e NL ⟨rfl,om⟩;have HL7:=n8 (aI.ext numC.mono' HL7 om);go_wp2_with fail;refine hK _ _ ⟨aO oX.1 om,aO oX.2.1 om,aC.trans oX.2.2 om⟩ (fun oX=>?_);clear hK K hi
   (try simp only [Act.put,aK,aL,aM])
   have hi:=a8 hO 16 (by decide)
   conv at hi=>rhs;arg 1;whnf
   refine dK hO 16 (by kernel_rfl) hi (fun K hK=>?_);go_simp
   (go_at_call 17;refine (vR _ _ _ _ _ (aI.ext numC.mono' Dw oX.2.2) HL7).mono ?_)
   rintro e NK ⟨rfl,om⟩;go_wp2_with fail;refine hK _ _ ⟨aO oX.1 om,aO oX.2.1 om,aC.trans oX.2.2 om⟩ (fun oX=>?_);clear hK K hi
   (try simp only [Act.put,aK,aL,aM])
   have hi:=a8 hO 17 (by decide)
   conv at hi=>rhs;arg 1;whnf
   refine tX hO (v:=?_) 17 hi (Or.inl ⟨by rfl,?_⟩) ?_;rotate_left
   ·((intro w');(try go_simp);(try with_reducible rfl))
   clear hi
   (try simp only [Act.put,aK,aL,aM])
   have hi:=a8 hO 18 (by decide)
   conv at hi=>rhs;arg 1;whnf
   refine fp hO 18 (by kernel_rfl) (by kernel_rfl) hi (fun K hK=>?_);go_simp;refine hK _ _ oX ?_;clear hK K hi hO
   (try simp only [Act.put,aK,aL,aM])
   go_wp2_with fail;go_ret;exact ⟨rfl,vC.trans (xZ.trans oX.2.2)⟩
end Go.Proofs.YtjlkkofmojgipaaGreatDoor
namespace Go.Proofs.YtjlkkofmojgipaaGreatDoor
open Go.ChangeShapes Go.WideShapes Go.ChangeAt Go.RowKit Go.Proofs.Tryz
theorem Z5Y:ownKnob prog.godebug=none:=by kernel_rfl
theorem Z5l:laidOutB prog=true:=by kernel_rfl
theorem R6_ {H:Type} {enc:TypeId×Value->H} {P:Program} (hl:laidOutB P=true) {W W':World} (hb:Below W.heap.size W W') :
  ∀ (ts:List TypeId) (vs:List Value) (ds:List (DataW H)) (ps:List MemPlace),(∀ t∈ts,P.readableRec t=true/\t<P.types.size) ->
   DataW.TrodAll enc P W 0 (fun _=>true) true ts vs ds ps->(∀ x∈ps,x.block<W.heap.size)->DataW.TrodAll enc P W' 0 (fun b=>decide (b<W.heap.size)) true ts vs ds ps
 | [],[],[],ps,_,h,_=>h
 | t::ts,v::vs,d::ds,ps,hr,h,hlt=>by
  obtain ⟨p,p',h1,h2,rfl⟩:=h;exact ⟨p,p',Below.trod hl (hr t (by simp)).1 (hr t (by simp)).2 h1 hb (fun x hx=>hlt x (by simp [hx])),R6_ hl hb ts vs ds p' (fun t ht=>hr t (by simp [ht])) h2 (fun x hx=>hlt x (by simp [hx])),rfl⟩
 | [],v::vs,_,_,_,h,_=>absurd h (by simp [DataW.TrodAll])
 | [],[],d::ds,_,_,h,_=>absurd h (by simp [DataW.TrodAll])
 | t::ts,[],_,_,_,h,_=>absurd h (by simp [DataW.TrodAll])
 | t::ts,v::vs,[],_,_,h,_=>absurd h (by simp [DataW.TrodAll])
theorem Z5m {H:Type} {enc:TypeId×Value->H} {f:Func} {s:ChangeSpec} {W W':World} {args:Array Value} {ds:List (DataW H)} {before:List MemPlace}
  (hW:DataW.Whole enc prog f.params.toList s.vars false W args.toList ds [] before) (hA:DataW.TrodAll enc prog W 0 (fun _=>true) true f.params.toList args.toList ds before)
  (hv:s.vars=[]) (FM:f.resultTypes=#[4]) (vg:s.fn H (ds++[])={ results:=[.lit (.bool true)],args:=ds }) (hr:∀ t∈f.params.toList,prog.readableRec t=true/\t<prog.types.size) (hb:Below W.heap.size W W') :
  ∃ v,Ending.returned (.bool true)=Ending.returned v/\ChangeSpec.post enc prog f s false true false false W args v W':=by
 refine ⟨_,rfl,ds,[],before,[],before,[],hW,?_,?_,?_,?_,fun h=>by cases h⟩
 ·rw [vg,FM];exact trodAll_cons_mk (shut_bool underlying4 _) trodAll_mk0
 ·rw [vg];exact R6_ Z5l hb _ _ _ _ hr hA (fun x hx=>by simpa using hW.lt x hx)
 ·rw [vg,hv];rfl
 ·exact hb.frame _
abbrev Z3N : List (String × DataW Unit) := [("math/bits.deBruijn32tab", Rows.laid_math_bits_deBruijn32tab), ("math/bits.deBruijn64tab", Rows.laid_math_bits_deBruijn64tab), ("internal/strconv.uint64pow10", Rows.laid_internal_strconv_uint64pow10), ("strconv.ErrRange", Rows.laid_strconv_ErrRange), ("strconv.ErrSyntax", Rows.laid_strconv_ErrSyntax)]
theorem x2_ {W:World} (h:laidMetH prog Z3N W):af W:=by
 rw [MakeChecks.laidMetH_plain _ _ _ (by kernel_rfl)] at h;have h2:=laidMet.tail (laidMet.tail h);exact Lib.tabIs_of_head (g:=4) (t:=266) (e:=204) (n:=20) (by kernel_rfl) (by kernel_rfl) (by kernel_rfl) (by kernel_rfl) (by kernel_rfl) (by kernel_rfl) h2
theorem W4_ {H:Type} {enc:TypeId×Value->H} {a:Assume} {C:Checked} {os:Os} {f:FuncId} {fn:Func} {s:ChangeSpec} {conds:List PathCond} {apart fresh handsOn again:Bool} {X:World->Array Value->Prop}
  (hX:∀ (w w':World) (args:Array Value),w.heap=w'.heap->X w args->X w' args)
  (own:ownKnob C.prog.godebug=none) (started:os.Started) (noInit:C.prog.inits.idxOf? f=none) (vg:C.prog.funcs[f]?=some fn)
  (witness:∃ (w:World) (tape:Tape) (i:Input),w.os=os/\(w.forCall tape i).Shaped C.prog/\i.vars=[]/\Input.okWide C.prog (w.forCall tape i) .any w.heap.size f i /\
   ((s.pre enc C.prog fn conds apart (w.forCall tape i).memory i.args/\X (w.forCall tape i).memory i.args)/\sizedMet enc C.prog fn (OpenSpec.ofChange s) apart (w.forCall tape i).memory i.args)/\a.holds C.prog (lone (Frame.enter C.prog f i.args .normal) [] (w.forCall tape i)))
  (contract:∀ (W:World) (base:Nat) (args:Array Value) (ds gs:List (DataW H)) (before:List MemPlace),
   (∀ (j:Nat) t v,fn.params[j]?=some t->args[j]?=some v->Value.okWide C.prog W .any base t v) ->
   DataW.Whole enc C.prog fn.params.toList s.vars apart W args.toList ds gs before ->
   conds.all (PathCond.test C.prog ⟨fn.params.toList,ds,s.plain.varTypes C.prog,gs⟩)=true ->
   (DataW.weightsEach C.prog (fn.params.toList++s.plain.varTypes C.prog) (ds++gs)).all (·<=reachBytes)=true->X W args ->
   W.ShapedOpen C.prog ->
   a.holds C.prog (lone (Frame.enter C.prog f args .normal) [] W) ->
   Calls C.prog f args W fun e W'=>∃ v,e=.returned v/\s.post enc C.prog fn apart fresh handsOn again W args v W') :
  ReturnsInHanded a C os f .any (fun w args=>(s.pre enc C.prog fn conds apart w args/\X w args)/\sizedMet enc C.prog fn (OpenSpec.ofChange s) apart w args) (s.post enc C.prog fn apart fresh handsOn again):=by
 refine returnsInHanded_of_calls own started noInit witness ?_;intro w tape i _ hsh _ hok FR AT;obtain ⟨_,_,_,fn',GD,_,_,_,_,sX⟩:=hok;have e:fn'=fn:=oL (GD.symm.trans vg);subst e;obtain ⟨⟨⟨ds,gs,before,hw,hc⟩,hx⟩,hz⟩:=FR;have hw':=DataW.Whole.of_heap (w':=w.forCall tape i) (by rfl) hw;refine (contract (w.forCall tape i) w.heap.size i.args ds gs before sX hw' hc (hz.weights hw) (hX _ _ _ (by rfl) hx) hsh AT).mono fun e W' ⟨v,he,hp⟩=>?_;subst he;exact ChangeSpec.post_blind hp
theorem Z1i (os:Os) (args:Array Value):laidMetH prog Z3N ((World.laidAll prog os Z3N).forCall (fun _ _=>0) ⟨#[],args,[]⟩).memory:=by
 rw [MakeChecks.laidMetH_plain _ _ _ (by kernel_rfl)];exact laidMet_laidAll _ (by kernel_rfl) (by kernel_rfl)
theorem Z5S (u : TypeId) (h : prog.typeName? 3 u = some "*errors.errorString") : u = 269 :=
 typeName_ptr_named (nm := "errors.errorString") (by rw [show "*" ++ "errors.errorString" = "*errors.errorString" by decide]; kernel_rfl) (by kernel_rfl) (by decide) u (by rw [show "*" ++ "errors.errorString" = "*errors.errorString" by decide]; exact h)
theorem Z1Y {W:World} (h:laidMetH prog Z3N W):iV W:=by
 have hp:=x2_ h;rw [MakeChecks.laidMetH_plain _ _ _ (by kernel_rfl)] at h;have h2:=laidMet.tail (laidMet.tail h);refine ⟨hp,?_⟩;have h4:=laidMet.tail h2;obtain ⟨a,s,hv,-⟩:=laid_sentinel (g:=3) (ti:=176) (tp:=269) (te:=271) (ts:=9) (ms:=_) (f:=_) h4 (by kernel_rfl) (by kernel_rfl) underlying176 Z5S underlying269 underlying271 rfl rfl underlying9 (by kernel_rfl) (by kernel_rfl);have hc := World.var?_cell (show prog.globalNamed "strconv.ErrRange" = some 3 by kernel_rfl) hv 0;exact ⟨_,_,by simpa using hc⟩
theorem Z64 {W:World} (h:af W):4<W.heap.size:=by
 unfold af Lib.TabIs at h;have hg : prog.globalNamed "internal/strconv.uint64pow10" = some 4 := by kernel_rfl
 by_cases hlt:4<W.heap.size
 ·exact hlt
 ·simp [World.var?,hg,Array.getElem?_eq_none (show W.heap.size<=4 by omega)] at h
end Go.Proofs.YtjlkkofmojgipaaGreatDoor
