import Derived.KernelRfl
import Derived.Deep.RegionHeld3
import Derived.Test.YtoonaddcfakamaaGreatDoorYAA
import Derived.Test.YtoonaddcfakamaaGreatDoorYAE
import Derived.Test.YtoonaddcfakamaaGreatDoorYAB
import Derived.Test.YtoonaddcfakamaaGreatDoorYAD
set_option linter.unusedVariables false
set_option linter.unusedSimpArgs false
namespace Go.Proofs.YtoonaddcfakamaaGreatDoor
open Go.RowKit
section
variable {P:Program} {ops:Array Oper} {Q:Exit->Act->World->Prop} {md:Region.Mode} {S:World->Prop} {z:Nat}
def bU (P:Program) (md:Region.Mode) (ops:Array Oper) (Q:Exit->Act->World->Prop) (S:World->Prop) (z:Nat):Nat->Array Bool->Act->World->Prop
 | 0,l,a,w=>Region.ready md ops l=[]/\Q .normal a w
 | f+1,l,a,w=>(Region.ready md ops l=[]->Q .normal a w) /\
  ∀ i∈Region.ready md ops l,wpOp P ops Q i (fun b u=>((l.setIfInBounds i true).getD z false=false->S u)/\bU P md ops Q S z f (l.setIfInBounds i true) b u) a w
theorem y0_:∀ (f:Nat) (l:Array Bool) (a:Act) (w:World),bU P md ops Q S z f l a w->wpAny P md ops Q f l a w
 | 0,_,_,_,h=>h
 | f+1,l,_,_,h=>⟨h.1,fun i hi=>wpOp_mono (fun b u hb=>y0_ f (l.setIfInBounds i true) b u hb.2) (h.2 i hi)⟩
def lD (md:Region.Mode) (ops:Array Oper) (l:Array Bool):Prop:=∀ j o,ops[j]?=some o->l.getD j false=true->∀ e∈o.after,Region.binds md e=true->l.getD e.on false=true
def y4_ (md:Region.Mode) (ops:Array Oper) (l:Array Bool):Bool:=(List.range ops.size).all fun j=>!(l.getD j false) || match ops[j]? with
 | some o=>o.after.all fun e=>!(Region.binds md e) || l.getD e.on false
 | none=>true
theorem t8_ {l:Array Bool} (h:y4_ md ops l=true):lD md ops l:=by
 intro j o ho hl e he hb;have h1:=List.all_eq_true.1 h j (List.mem_range.2 (Array.getElem?_eq_some_iff.1 ho).1);simp only [ho,hl,Bool.not_true,Bool.false_or] at h1;have h2:=Array.all_eq_true_iff_forall_mem.1 h1 e he;simpa [hb] using h2
theorem lD.step {l:Array Bool} (h:lD md ops l) {j:Nat} (hj:j∈Region.ready md ops l):lD md ops (l.setIfInBounds j true):=by
 intro k o ho hl e he hb;by_cases hk:j=k
 ·subst hk;obtain ⟨-,o',yu,hall⟩:=mem_ready.1 hj;obtain rfl:o'=o:=oA (yu.symm.trans ho);exact getD_set_true (hall e he hb)
 ·rw [getD_set_ne false hk] at hl;exact getD_set_true (h k o ho hl e he hb)
def jV (md:Region.Mode) (ops:Array Oper):Nat->Nat->Nat->Bool
 | 0,_,_=>false
 | f+1,a,i=>match ops[a]? with
  | some o=>o.after.any fun e=>Region.binds md e && (e.on == i || jV md ops f e.on i)
  | none=>false
theorem Y2_ {l:Array Bool} (hc:lD md ops l) {i:Nat}:∀ (f a:Nat) (o:Oper),ops[a]?=some o->jV md ops f a i=true->(∀ e∈o.after,Region.binds md e=true->l.getD e.on false=true)->l.getD i false=true
 | 0,_,_,_,h,_=>by cases h
 | f+1,a,o,ho,h,hall=>by
  simp only [jV,ho] at h;obtain ⟨e,he,hb⟩:=Array.any_eq_true'.1 h;simp only [Bool.and_eq_true,Bool.or_eq_true,beq_iff_eq] at hb;have hl:=hall e he hb.1;rcases hb.2 with h1 | h1;·rw [<- h1];exact hl
  ·cases hq:ops[e.on]? with
   | none=>cases f with
    | zero=>cases h1
    | succ f=>simp only [jV,hq] at h1;cases h1
   | some p=>exact Y2_ hc f e.on p hq h1 fun d hd hbd=>hc e.on p hq hl d hd hbd
theorem N1_ {l:Array Bool} {i:Nat} (h:(l.setIfInBounds i true).getD z false=false):l.getD z false=false:=by
 cases e:l.getD z false;·rfl
 ·rw [getD_set_true e] at h;cases h
theorem P2_ {l:Array Bool} {i:Nat} (ui:l.getD i true=false):l.getD i false=false:=by
 by_cases hs:i<l.size;·simp [hs] at ui |-;exact ui
 ·simp [Array.getElem?_eq_none (Nat.le_of_not_lt hs)]
theorem c3_ {i n:Nat} {oi:Oper} {v:Value} (hi:ops[i]?=some oi) (sC:∀ (j:Nat) (o:Oper) cs b,ops[j]?=some o->o.op≠.select cs b)
  (hQ:∀ c a w,Q (.panic c) (a.put oi.dst v) w->Q (.panic c) a w) (hz:jV md ops n z i=true) (f:Nat) :
  ∀ (l:Array Bool) (a:Act) (w:World),
   (∀ j oj,ops[j]?=some oj->j≠i->l.getD j true=false->(∀ e∈oj.after,Region.binds md e=true->e.on≠i)->oi.apart ops oj=true) ->
   lD md ops l->i∈Region.ready md ops l->YieldsIf P ops S oi v a->S w ->
   bU P md ops Q S z f (l.setIfInBounds i true) (a.put oi.dst v) w->bU P md ops Q S z (f+1) l a w:=by
 induction f with
 | zero =>
  intro l a w _ _ hr hy hS H;refine ⟨(fun e=>by rw [e] at hr;cases hr),fun j hj=>?_⟩;by_cases e:j=i;·rw [e];exact hy.wpOp hi hS ⟨fun _=>hS,H⟩
  ·have:=ready_mono hj e;rw [H.1] at this;cases this
 | succ f ih =>
  intro l a w pj o8 hr hy hS H;refine ⟨(fun e=>by rw [e] at hr;cases hr),fun j hj=>?_⟩;by_cases e:j=i;·rw [e];exact hy.wpOp hi hS ⟨fun _=>hS,H⟩
  have sh:i≠j:=fun x=>e x.symm;have un:=(mem_ready.1 hj).1;obtain ⟨oj,vH,hall⟩:=(mem_ready.1 hj).2;have ui:=(mem_ready.1 hr).1;have uf:l.getD i false=true->False:=fun hc=>by rw [P2_ ui] at hc;cases hc
  have KJ:j≠z:=fun Dg=>by
   subst Dg;exact uf (Y2_ o8 n j oj vH hz hall)
  have Eh:i≠z:=fun Dg=>by
   subst Dg;obtain ⟨o2,ho2,Ba⟩:=(mem_ready.1 hr).2;exact uf (Y2_ o8 n i o2 ho2 hz Ba)
  have Ci:l.getD z false=false:=by
   cases e2:l.getD z false;·rfl
   ·exfalso;cases hq:ops[z]? with
    | none=>cases n with
     | zero=>cases hz
     | succ n=>simp only [jV,hq] at hz;cases hz
    | some o3=>exact uf (Y2_ o8 n z o3 hq hz fun d hd hbd=>o8 z o3 hq e2 d hd hbd)
  have tb:∀ d∈oj.after,Region.binds md d=true->d.on≠i:=fun d hd hb su=>uf (by have:=hall d hd hb;rwa [su] at this);have step:=wpOp_putIf vH (pj j oj vH e un tb) (fun cs b=>sC i oi cs b hi) (fun cs b=>sC j oj cs b vH) hQ hy (H.2 j (ready_mono hj e));refine wpOp_mono (fun b u hb=>?_) step;obtain ⟨rF,s7,pE⟩:=hb;have yK:S u:=s7 (by rw [getD_set_ne false KJ,getD_set_ne false Eh];exact Ci);refine ⟨fun _=>yK,ih (l.setIfInBounds j true) b u (fun k ok hk BL xv hn=>?_) (o8.step hj) (ready_mono hr sh) rF yK ?_⟩
  ·refine pj k ok hk BL ?_ hn;by_cases yB:j=k;·rw [<- yB];exact un
   ·rw [getD_set_ne true yB] at xv;exact xv
  ·rw [Array.setIfInBounds_comm _ _ e];exact pE
theorem m5_ {i:Nat} {oi:Oper} {v:Value} (hi:ops[i]?=some oi) (sC:∀ (j:Nat) (o:Oper) cs b,ops[j]?=some o->o.op≠.select cs b)
  (hQ:∀ c a w,Q (.panic c) (a.put oi.dst v) w->Q (.panic c) a w) (Eh:i≠z) (f:Nat) :
  ∀ (l:Array Bool) (a:Act) (w:World),
   (∀ j oj,ops[j]?=some oj->j≠i->l.getD j true=false->(∀ e∈oj.after,Region.binds md e=true->e.on≠i)->oi.apart ops oj=true) ->
   i∈Region.ready md ops l->Yields P ops oi v a->(l.getD z false=false->S w) ->
   bU P md ops Q S z f (l.setIfInBounds i true) (a.put oi.dst v) w->bU P md ops Q S z (f+1) l a w:=by
 induction f with
 | zero =>
  intro l a w _ hr hy hS H;refine ⟨(fun e=>by rw [e] at hr;cases hr),fun j hj=>?_⟩;by_cases e:j=i;·rw [e];exact hy.wpOp hi ⟨fun h=>hS (N1_ h),H⟩
  ·have:=ready_mono hj e;rw [H.1] at this;cases this
 | succ f ih =>
  intro l a w pj hr hy hS H;refine ⟨(fun e=>by rw [e] at hr;cases hr),fun j hj=>?_⟩;by_cases e:j=i;·rw [e];exact hy.wpOp hi ⟨fun h=>hS (N1_ h),H⟩
  have sh:i≠j:=fun x=>e x.symm;have un:=(mem_ready.1 hj).1;obtain ⟨oj,vH,hall⟩:=(mem_ready.1 hj).2;have ui:=(mem_ready.1 hr).1;have uf:l.getD i false=true->False:=fun hc=>by rw [P2_ ui] at hc;cases hc
  have tb:∀ d∈oj.after,Region.binds md d=true->d.on≠i:=fun d hd hb su=>uf (by have:=hall d hd hb;rwa [su] at this);have step:=wpOp_put vH (pj j oj vH e un tb) (fun cs b=>sC i oi cs b hi) (fun cs b=>sC j oj cs b vH) hQ hy (H.2 j (ready_mono hj e));refine wpOp_mono (fun b u hb=>?_) step;obtain ⟨rF,s7,pE⟩:=hb;have yK:(l.setIfInBounds j true).getD z false=false->S u:=fun h=>s7 (by rw [Array.setIfInBounds_comm _ _ sh,getD_set_ne false Eh];exact h);refine ⟨yK,ih (l.setIfInBounds j true) b u (fun k ok hk BL xv hn=>?_) (ready_mono hr sh) rF yK ?_⟩
  ·refine pj k ok hk BL ?_ hn;by_cases yB:j=k;·rw [<- yB];exact un
   ·rw [getD_set_ne true yB] at xv;exact xv
  ·rw [Array.setIfInBounds_comm _ _ e];exact pE
theorem u9_ (i:Nat) {oi:Oper} {v:Value} {f:Nat} {l:Array Bool} {a:Act} {w:World} (hi:ops[i]?=some oi)
  (hs:Region.noSelect ops=true) (hc:y4_ md ops l=true) (hf:Region.free md ops l i=true) (hr:(Region.ready md ops l).contains i=true) (hz:jV md ops 40 z i=true)
  (hQ:∀ c a w,Q (.panic c) (a.put oi.dst v) w->Q (.panic c) a w) (hy:YieldsIf P ops S oi v a) (hS:S w)
  (h:bU P md ops Q S z f (l.setIfInBounds i true) (a.put oi.dst v) w):bU P md ops Q S z (f+1) l a w :=
 c3_ hi (Region.noSelect_spec hs) hQ hz f l a w (Region.free_spec hi hf) (t8_ hc) (by simpa using hr) hy hS h
theorem E3_ (i:Nat) {oi:Oper} {v:Value} {f:Nat} {l:Array Bool} {a:Act} {w:World} (hi:ops[i]?=some oi)
  (hs:Region.noSelect ops=true) (hf:Region.free md ops l i=true) (hr:(Region.ready md ops l).contains i=true) (hz:i≠z)
  (hQ:∀ c a w,Q (.panic c) (a.put oi.dst v) w->Q (.panic c) a w) (hy:Yields P ops oi v a) (hS:S w)
  (h:bU P md ops Q S z f (l.setIfInBounds i true) (a.put oi.dst v) w):bU P md ops Q S z (f+1) l a w :=
 m5_ hi (Region.noSelect_spec hs) hQ hz f l a w (Region.free_spec hi hf) (by simpa using hr) hy (fun _=>hS) h
theorem dz (i:Nat) {o:Oper} {f:Nat} {l:Array Bool} {a:Act} {w:World} (hr:Region.ready md ops l=[i]) (ho:ops[i]?=some o)
  (h:∀ K:Act->World->Prop,Shut (∀ b u,S u->(S u->bU P md ops Q S z f (l.setIfInBounds i true) b u)->K b u)->if Region.wanted o (yielded ops a.tmps)=true then Oper.wp P o a w K Q else K (a.put o.dst undef) w):bU P md ops Q S z (f+1) l a w:=by
 refine ⟨(fun e=>by rw [hr] at e;cases e),fun j hj=>?_⟩;obtain rfl:j=i:=by rw [hr] at hj;simpa using hj
 exact wpOp_step ho fun K hK=>h K fun b u hS pE=>hK b u ⟨fun _=>hS,pE hS⟩
theorem E1_ (i:Nat) {o:Oper} {f:Nat} {l:Array Bool} {a:Act} {w:World} (hr:Region.ready md ops l=[i]) (hz:(l.setIfInBounds i true).getD z false=true) (ho:ops[i]?=some o)
  (h:∀ K:Act->World->Prop,Shut (∀ b u,bU P md ops Q S z f (l.setIfInBounds i true) b u->K b u)->if Region.wanted o (yielded ops a.tmps)=true then Oper.wp P o a w K Q else K (a.put o.dst undef) w):bU P md ops Q S z (f+1) l a w:=by
 refine ⟨(fun e=>by rw [hr] at e;cases e),fun j hj=>?_⟩;obtain rfl:j=i:=by rw [hr] at hj;simpa using hj
 exact wpOp_step ho fun K hK=>h K fun b u pE=>hK b u ⟨(fun e=>by rw [hz] at e;cases e),pE⟩
theorem gX (i:Nat) {o:Oper} {f:Nat} {l:Array Bool} {a:Act} {w:World} (hr:Region.ready md ops l=[i]) (pF:Region.ready md ops (l.setIfInBounds i true)=[]) (hz:(l.setIfInBounds i true).getD z false=true) (ho:ops[i]?=some o)
  (h:∀ K:Act->World->Prop,Shut (∀ b u,Q .normal b u->K b u)->if Region.wanted o (yielded ops a.tmps)=true then Oper.wp P o a w K Q else K (a.put o.dst undef) w):bU P md ops Q S z (f+1) l a w:=by
 refine ⟨(fun e=>by rw [hr] at e;cases e),fun j hj=>?_⟩;obtain rfl:j=i:=by rw [hr] at hj;simpa using hj
 refine wpOp_step ho fun K hK=>h K fun b u hq=>hK b u ⟨(fun e=>by rw [hz] at e;cases e),?_⟩;cases f with
 | zero=>exact ⟨pF,hq⟩
 | succ f=>exact ⟨fun _=>hq,by rw [pF];simp⟩
theorem ks (S:World->Prop) (z:Nat) {id:Nat} {a:Act} {w:World} (hm:P.follows .mixedOrders=true) (hS:S w.drew)
  (h:S w.drew->bU P .any ops Q S z ops.size (Array.replicate ops.size false) a w.drew):(Code.region id ops true).wp P Q a w :=
 wp_region_any hm (y0_ _ _ _ _ (h hS))
end
section
variable {P:Program} {ops:Array Oper} {Q:Exit->Act->World->Prop} {md:Region.Mode} {S:World->Prop} {z:Nat}
theorem m4_ {i:Nat} {oi:Oper} {v:Value} (hi:ops[i]?=some oi) (sC:∀ (j:Nat) (o:Oper) cs b,ops[j]?=some o->o.op≠.select cs b)
  (hQ:∀ c a w,Q (.panic c) (a.put oi.dst v) w->Q (.panic c) a w) (f:Nat) :
  ∀ (l:Array Bool) (a:Act) (w:World),l.size<=z ->
   (∀ j oj,ops[j]?=some oj->j≠i->l.getD j true=false->(∀ e∈oj.after,Region.binds md e=true->e.on≠i)->oi.apart ops oj=true) ->
   i∈Region.ready md ops l->YieldsIf P ops S oi v a->S w ->
   bU P md ops Q S z f (l.setIfInBounds i true) (a.put oi.dst v) w->bU P md ops Q S z (f+1) l a w:=by
 induction f with
 | zero =>
  intro l a w _ _ hr hy hS H;refine ⟨(fun e=>by rw [e] at hr;cases hr),fun j hj=>?_⟩;by_cases e:j=i;·rw [e];exact hy.wpOp hi hS ⟨fun _=>hS,H⟩
  ·have:=ready_mono hj e;rw [H.1] at this;cases this
 | succ f ih =>
  intro l a w Ht pj hr hy hS H;refine ⟨(fun e=>by rw [e] at hr;cases hr),fun j hj=>?_⟩;by_cases e:j=i;·rw [e];exact hy.wpOp hi hS ⟨fun _=>hS,H⟩
  have sh:i≠j:=fun x=>e x.symm;have un:=(mem_ready.1 hj).1;obtain ⟨oj,vH,hall⟩:=(mem_ready.1 hj).2;have ui:=(mem_ready.1 hr).1;have uf:l.getD i false=true->False:=fun hc=>by rw [P2_ ui] at hc;cases hc
  have EF:∀ l':Array Bool,l'.size<=z->l'.getD z false=false:=fun l' h=>by simp [Array.getElem?_eq_none h]
  have tb:∀ d∈oj.after,Region.binds md d=true->d.on≠i:=fun d hd hb su=>uf (by have:=hall d hd hb;rwa [su] at this);have step:=wpOp_putIf vH (pj j oj vH e un tb) (fun cs b=>sC i oi cs b hi) (fun cs b=>sC j oj cs b vH) hQ hy (H.2 j (ready_mono hj e));refine wpOp_mono (fun b u hb=>?_) step;obtain ⟨rF,s7,pE⟩:=hb;have yK:S u:=s7 (EF _ (by simpa using Ht));refine ⟨fun _=>yK,ih (l.setIfInBounds j true) b u (by simpa using Ht) (fun k ok hk BL xv hn=>?_) (ready_mono hr sh) rF yK ?_⟩
  ·refine pj k ok hk BL ?_ hn;by_cases yB:j=k;·rw [<- yB];exact un
   ·rw [getD_set_ne true yB] at xv;exact xv
  ·rw [Array.setIfInBounds_comm _ _ e];exact pE
theorem c7_ (i:Nat) {oi:Oper} {v:Value} {f:Nat} {l:Array Bool} {a:Act} {w:World} (hi:ops[i]?=some oi)
  (hs:Region.noSelect ops=true) (hf:Region.free md ops l i=true) (hr:(Region.ready md ops l).contains i=true) (hz:l.size<=z)
  (hQ:∀ c a w,Q (.panic c) (a.put oi.dst v) w->Q (.panic c) a w) (hy:YieldsIf P ops S oi v a) (hS:S w)
  (h:bU P md ops Q S z f (l.setIfInBounds i true) (a.put oi.dst v) w):bU P md ops Q S z (f+1) l a w :=
 m4_ hi (Region.noSelect_spec hs) hQ f l a w hz (Region.free_spec hi hf) (by simpa using hr) hy hS h
theorem c4_ (i:Nat) {o:Oper} {f:Nat} {l:Array Bool} {a:Act} {w:World} (hr:Region.ready md ops l=[i]) (pF:Region.ready md ops (l.setIfInBounds i true)=[]) (ho:ops[i]?=some o)
  (h:∀ K:Act->World->Prop,Shut (∀ b u,S u->Q .normal b u->K b u)->if Region.wanted o (yielded ops a.tmps)=true then Oper.wp P o a w K Q else K (a.put o.dst undef) w):bU P md ops Q S z (f+1) l a w:=by
 refine ⟨(fun e=>by rw [hr] at e;cases e),fun j hj=>?_⟩;obtain rfl:j=i:=by rw [hr] at hj;simpa using hj
 refine wpOp_step ho fun K hK=>h K fun b u hS hq=>hK b u ⟨fun _=>hS,?_⟩;cases f with
 | zero=>exact ⟨pF,hq⟩
 | succ f=>exact ⟨fun _=>hq,by rw [pF];simp⟩
end
section
variable {P:Program} {ops O:Array Oper} {Q:Exit->Act->World->Prop} {md:Region.Mode} {S:World->Prop} {z n:Nat}
theorem jo (hO:Hid (ops=O)) (i:Nat) (h:i<O.size):ops[i]?=some O[i]:=by
 have hO:ops=O:=hO;subst hO;exact Array.getElem?_eq_getElem h
end
section
variable {P:Program} {ops O:Array Oper} {Q:Exit->Act->World->Prop} {md:Region.Mode} {S:World->Prop} {z n:Nat}
theorem o2_ (S:World->Prop) (z:Nat) (n:Nat) {id:Nat} {a:Act} {w:World} (hm:P.follows .mixedOrders=true) (hn:O.size=n) (hS:S w.drew)
  (h:∀ ops,Hid (ops=O)->S w.drew->bU P .any ops Q S z n (Array.replicate n false) a w.drew):(Code.region id O true).wp P Q a w :=
 ks S z hm hS (fun hh=>by have:=h O rfl hh;rw [hn];exact this)
theorem E2_ (hO:Hid (ops=O)) (i:Nat) {oi:Oper} {v:Value} {f:Nat} {l:Array Bool} {a:Act} {w:World} (hi:ops[i]?=some oi)
  (hs:Region.noSelect O=true) (hf:Region.free md O l i=true) (hr:(Region.ready md O l).contains i=true) (hz:decide (l.size<=z)=true)
  (hQ:∀ c a w,Q (.panic c) (a.put oi.dst v) w->Q (.panic c) a w) (hy:YieldsIf P O S oi v a) (hS:S w)
  (h:bU P md ops Q S z f (l.setIfInBounds i true) (a.put oi.dst v) w):bU P md ops Q S z (f+1) l a w:=by
 have hO:ops=O:=hO;subst hO;exact c7_ i hi hs hf hr (of_decide_eq_true hz) hQ hy hS h
theorem c6_ (hO:Hid (ops=O)) (i:Nat) {o:Oper} {f:Nat} {l:Array Bool} {a:Act} {w:World} (hr:Region.ready md O l=[i]) (ho:ops[i]?=some o)
  (h:∀ K:Act->World->Prop,Shut (∀ b u,S u->(S u->bU P md ops Q S z f (l.setIfInBounds i true) b u)->K b u)->if Region.wanted o (yielded O a.tmps)=true then Oper.wp P o a w K Q else K (a.put o.dst undef) w):bU P md ops Q S z (f+1) l a w:=by
 have hO:ops=O:=hO;subst hO;exact dz i hr ho h
theorem c5_ (hO:Hid (ops=O)) (i:Nat) {o:Oper} {f:Nat} {l:Array Bool} {a:Act} {w:World} (hr:Region.ready md O l=[i]) (pF:Region.ready md O (l.setIfInBounds i true)=[]) (ho:ops[i]?=some o)
  (h:∀ K:Act->World->Prop,Shut (∀ b u,S u->Q .normal b u->K b u)->if Region.wanted o (yielded O a.tmps)=true then Oper.wp P o a w K Q else K (a.put o.dst undef) w):bU P md ops Q S z (f+1) l a w:=by
 have hO:ops=O:=hO;subst hO;exact c4_ i hr pF ho h
end
section
variable {P:Program} {ops O:Array Oper} {Q:Exit->Act->World->Prop} {md:Region.Mode} {S:World->Prop} {z:Nat}
end
section
variable {P:Program} {ops O:Array Oper} {Q:Exit->Act->World->Prop} {md:Region.Mode} {S:World->Prop} {z:Nat}
theorem K7_ {l:Array Bool} {i f:Nat} (hi:l.getD i true=false) (h:l.toList.count false=f+1):(l.setIfInBounds i true).toList.count false=f:=by
 have hs:i<l.size:=by
  by_cases hs:i<l.size;·exact hs
  ·rw [Array.getD_eq_getD_getElem?,Array.getElem?_eq_none (by omega)] at hi;cases hi
 have hv:l.toList[i]'(by simpa using hs)=false:=by
  rw [Array.getD_eq_getD_getElem?,Array.getElem?_eq_getElem hs] at hi;simpa using hi
 rw [Array.toList_setIfInBounds,List.count_set (h:=by simpa using hs),hv,if_pos (by rfl),if_neg (by decide)];omega
theorem E0_ (Inv:Array Bool->Act->World->Prop) (m:Nat) (hS:∀ l b u,Inv l b u->S u)
  (hne:∀ l b u,Inv l b u->m<l.toList.count false->Region.ready md ops l≠[])
  (hstep:∀ l b u i o,Inv l b u->m<l.toList.count false->i∈Region.ready md ops l->ops[i]?=some o->∀ K:Act->World->Prop,Shut (∀ b' u',Inv (l.setIfInBounds i true) b' u'->K b' u')->if Region.wanted o (yielded ops b.tmps)=true then Oper.wp P o b u K Q else K (b.put o.dst undef) u)
  (hend:∀ l b u,Inv l b u->l.toList.count false=m->bU P md ops Q S z m l b u):∀ (f:Nat) (l:Array Bool) (a:Act) (w:World),l.toList.count false=f+m->Inv l a w->bU P md ops Q S z (f+m) l a w
 | 0,l,a,w,hf,hI=>by rw [Nat.zero_add] at hf |-;exact hend l a w hI hf
 | f+1,l,a,w,hf,hI=>by
  rw [show f+1+m=(f+m)+1 by omega] at hf |-;refine ⟨fun e=>absurd e (hne l a w hI (by omega)),fun i hi=>?_⟩;obtain ⟨h1,o,ho,-⟩:=mem_ready.1 hi;exact wpOp_step ho fun K hK=>hstep l a w i o hI (by omega) hi ho K fun b u hb=>hK b u ⟨fun _=>hS _ _ _ hb,E0_ Inv m hS hne hstep hend f _ b u (K7_ h1 hf) hb⟩
end
theorem l5_ {a:Act} {i j:Nat} {v:Value} (h:i≠j):(a.put (some i) v).eval (.tmp j)=a.eval (.tmp j) :=
 Act.eval_put fun d hd e=>by cases hd;cases e;exact h rfl
theorem Z5J (a:Act) {i j:Nat} (h:i≠j) (x y:Value):(a.put (some i) x).put (some j) y=(a.put (some j) y).put (some i) x :=
 Act.put_comm a x y fun d hd e=>by cases hd;cases e;exact h rfl
theorem Z0J {P:Program} {md:Region.Mode} {ops:Array Oper} {Q:Exit->Act->World->Prop} {S:World->Prop} {z f:Nat} {l:Array Bool} {a:Act} {w:World} (h:∀ a0,a0=a->bU P md ops Q S z f l a0 w):bU P md ops Q S z f l a w:=h a rfl
def cJ (a:Act):List (Nat×Nat)->List (Option Value)->Act
 | t::ts,some v::vs=>cJ (a.put (some t.2) v) ts vs
 | _::ts,none::vs=>cJ a ts vs
 | _,_=>a
def dP (l:Array Bool):List (Nat×Nat)->List Bool->Array Bool
 | t::ts,true::ps=>dP (l.setIfInBounds t.1 true) ts ps
 | _::ts,false::ps=>dP l ts ps
 | _,_=>l
def Z6h:Nat->List (List Bool)
 | 0=>[[]]
 | n+1=>(Z6h n).flatMap fun p=>[false::p,true::p]
theorem e0_:∀ p:List Bool,p∈Z6h p.length
 | []=>List.mem_singleton.2 rfl
 | b::p=>List.mem_flatMap.2 ⟨p,e0_ p,by cases b <;> simp⟩
theorem u2_ (i:Nat):∀ (ts:List (Nat×Nat)) (ps:List Bool) (l:Array Bool),dP (l.setIfInBounds i true) ts ps=(dP l ts ps).setIfInBounds i true
 | [],_,_=>by simp [dP]
 | _::_,[],_=>by simp [dP]
 | t::ts,true::ps,l=>by
  rw [dP,dP,<- u2_ i ts ps];congr 1;apply Array.ext_getElem?;intro j;simp only [Array.getElem?_setIfInBounds,Array.size_setIfInBounds];by_cases h1:t.1=j <;> by_cases h2:i=j <;> simp [h1,h2]
 | t::ts,false::ps,l=>by rw [dP,dP,u2_ i ts ps]
theorem i9_:∀ (ts:List (Nat×Nat)) (ps:List Bool) (l:Array Bool) (j:Nat) t,ts[j]?=some t->ps[j]?=some false->(dP l ts ps).setIfInBounds t.1 true=dP l ts (ps.set j true)
 | [],_,_,j,t,h,_=>by simp at h
 | _::_,[],_,j,t,_,h=>by simp at h
 | s::ts,p::ps,l,0,t,h,hp=>by
  simp at h hp;subst h;subst hp;rw [List.set_cons_zero,dP,dP,u2_]
 | s::ts,true::ps,l,j+1,t,h,hp=>by
  rw [List.set_cons_succ,dP,dP];exact i9_ ts ps _ j t (by simpa using h) (by simpa using hp)
 | s::ts,false::ps,l,j+1,t,h,hp=>by
  rw [List.set_cons_succ,dP,dP];exact i9_ ts ps _ j t (by simpa using h) (by simpa using hp)
theorem i7_ {s:Nat} (v:Value):∀ (ts:List (Nat×Nat)) (vs:List (Option Value)) (a:Act),(∀ t∈ts,t.2≠s)->cJ (a.put (some s) v) ts vs=(cJ a ts vs).put (some s) v
 | [],_,_,_=>by simp [cJ]
 | _::_,[],_,_=>by simp [cJ]
 | t::ts,some u::vs,a,h=>by
  rw [cJ,cJ,<- i7_ v ts vs _ (fun t ht=>h t (List.mem_cons_of_mem _ ht)),Z5J a (fun e=>h t (List.mem_cons_self ..) e.symm)]
 | t::ts,none::vs,a,h=>by rw [cJ,cJ,i7_ v ts vs _ (fun t ht=>h t (List.mem_cons_of_mem _ ht))]
theorem i8_ (v:Value):∀ (ts:List (Nat×Nat)) (vs:List (Option Value)) (a:Act) (j:Nat) t,(ts.map (·.2)).Nodup->ts[j]?=some t->vs[j]?=some none->(cJ a ts vs).put (some t.2) v=cJ a ts (vs.set j (some v))
 | [],_,_,j,t,_,h,_=>by simp at h
 | _::_,[],_,j,t,_,_,h=>by simp at h
 | s::ts,p::vs,a,0,t,hn,h,hp=>by
  simp at h hp;subst h;subst hp;rw [List.map_cons,List.nodup_cons] at hn;rw [List.set_cons_zero,cJ,cJ,i7_ v ts vs a fun t ht e=>hn.1 (List.mem_map.2 ⟨t,ht,e⟩)]
 | s::ts,some u::vs,a,j+1,t,hn,h,hp=>by
  rw [List.map_cons,List.nodup_cons] at hn;rw [List.set_cons_succ,cJ,cJ];exact i8_ v ts vs _ j t hn.2 (by simpa using h) (by simpa using hp)
 | s::ts,none::vs,a,j+1,t,hn,h,hp=>by
  rw [List.map_cons,List.nodup_cons] at hn;rw [List.set_cons_succ,cJ,cJ];exact i8_ v ts vs _ j t hn.2 (by simpa using h) (by simpa using hp)
theorem K0_ {k:Nat}:∀ (ts:List (Nat×Nat)) (vs:List (Option Value)) (a:Act),(∀ t∈ts,t.2≠k)->(cJ a ts vs).eval (.tmp k)=a.eval (.tmp k)
 | [],_,_,_=>by simp [cJ]
 | _::_,[],_,_=>by simp [cJ]
 | t::ts,some u::vs,a,h=>by
  rw [cJ,K0_ ts vs _ (fun t ht=>h t (List.mem_cons_of_mem _ ht)),l5_ (h t (List.mem_cons_self ..))]
 | t::ts,none::vs,a,h=>by rw [cJ,K0_ ts vs _ (fun t ht=>h t (List.mem_cons_of_mem _ ht))]
def kg (deps:List (List Nat)) (ps:List Bool):Bool:=(List.range ps.length).all fun j=>!(ps.getD j false) || (deps.getD j []).all fun d=>ps.getD d false
def Z6s (md:Region.Mode) (ops:Array Oper) (l0:Array Bool) (ts:List (Nat×Nat)) (deps:List (List Nat)) (m:Nat):Bool :=
 (Z6h ts.length).all fun ps=>!(kg deps ps) || ((decide ((dP l0 ts ps).toList.count false=m) == ps.all id) && (ps.all id || (!(Region.ready md ops (dP l0 ts ps)).isEmpty && (Region.ready md ops (dP l0 ts ps)).all fun i=>(List.range ts.length).any fun j=>decide ((ts.getD j (0,0)).1=i) && !(ps.getD j true) && (deps.getD j []).all fun d=>ps.getD d false)))
theorem Z4Z {deps:List (List Nat)} {ps:List Bool} {j:Nat} (h:kg deps ps=true) (hj:(deps.getD j []).all (fun d=>ps.getD d false)=true):kg deps (ps.set j true)=true:=by
 unfold kg at h |-;rw [List.all_eq_true] at h |-;intro i hi;rw [List.length_set] at hi;have hup:∀ d,ps.getD d false=true->(ps.set j true).getD d false=true:=fun d hd=>by
  rw [nu,oK];rw [nu] at hd
  split
  ·rename_i e;subst e;cases hq:ps[j]? with
   | none=>rw [hq] at hd;cases hd
   | some b=>rw [if_pos (nt.1 hq).1];rfl
  ·exact hd
 have hall:∀ l:List Nat,l.all (fun d=>ps.getD d false)=true->l.all (fun d=>(ps.set j true).getD d false)=true:=fun l hl=>by
  rw [List.all_eq_true] at hl |-;exact fun d hd=>hup d (hl d hd)
 have h9:=h i hi;rw [Bool.or_eq_true] at h9 |-;rcases h9 with h9 | h9
 ·by_cases e:i=j;·subst e;exact .inr (hall _ hj)
  ·left;rw [nu,oK,if_neg (Ne.symm e),<- nu];exact h9
 ·exact .inr (hall _ h9)
section
variable {P:Program} {ops O:Array Oper} {Q:Exit->Act->World->Prop} {md:Region.Mode} {S:World->Prop} {z:Nat}
def TkJ (F:Nat->World->Value->Prop) (box:Nat->Bool) (w0:World) (vs:List (Option Value)) (u:World):Prop :=
 aA w0 u/\(∀ j v,vs[j]?=some (some v)->F j u v)/\∀ i j,box i=true->box j=true->i≠j->∀ v v',vs[i]?=some (some v)->vs[j]?=some (some v')->v≠v'
def mL (C:Array Value) (T:TypeId) (w0 u:World) (v:Value):Prop:=∃ g,v=.pointer (some ⟨g,0,none⟩)/\w0.heap.size<=g/\u.heap[g]?=some (.cells C T (0,0))
theorem c8_ (hO:Hid (ops=O)) (ts:List (Nat×Nat)) (deps:List (List Nat)) (box:Nat->Bool) (F:Nat->World->Value->Prop) (w0:World) (m nn:Nat) {l0:Array Bool} {a0:Act} {w:World} (hw:aA w0 w)
  (xP:nn=ts.length+m) (zA:Z6s md O l0 ts deps m=true) (Ct:(ts.map (·.2)).Nodup) (y9:l0.toList.count false=ts.length+m)
  (hS:∀ u,aA w0 u->S u) (hF:∀ j u u' v,F j u v->aA u u'->F j u' v) (FI:∀ j u v,box j=true->F j u v->∃ g,v=.pointer (some ⟨g,0,none⟩)/\g<u.heap.size)
  (hstep:∀ j t o vs u,ts[j]?=some t->ops[t.1]?=some o->TkJ F box w0 vs u->(∀ d∈deps.getD j [],∃ v,vs[d]?=some (some v))->∀ K:Act->World->Prop,
   (∀ v u',F j u' v->aA u u'->(box j=true->v=.pointer (some ⟨u.heap.size,0,none⟩))->K ((cJ a0 ts vs).put (some t.2) v) u')->if Region.wanted o (yielded ops (cJ a0 ts vs).tmps)=true then Oper.wp P o (cJ a0 ts vs) u K Q else K ((cJ a0 ts vs).put o.dst undef) u)
  (hend:∀ vs u,vs.length=ts.length->(∀ j,j<ts.length->∃ v,vs[j]?=some (some v))->TkJ F box w0 vs u->bU P md ops Q S z m (dP l0 ts (vs.map Option.isSome)) (cJ a0 ts vs) u) :
  bU P md ops Q S z nn l0 a0 w:=by
 have hO:ops=O:=hO;subst hO;subst xP;have hP:∀ vs:List (Option Value),vs.length=ts.length->kg deps (vs.map Option.isSome)=true->(decide ((dP l0 ts (vs.map Option.isSome)).toList.count false=m)=(vs.map Option.isSome).all id)/\((vs.map Option.isSome).all id=true\/(Region.ready md ops (dP l0 ts (vs.map Option.isSome))≠[]/\∀ i∈Region.ready md ops (dP l0 ts (vs.map Option.isSome)),∃ j,j<ts.length/\(ts.getD j (0,0)).1=i/\(vs.map Option.isSome).getD j true=false/\((deps.getD j []).all fun d=>(vs.map Option.isSome).getD d false)=true)):=fun vs hl hd=>by
  have h9:=List.all_eq_true.1 zA (vs.map Option.isSome) (by have:=e0_ (vs.map Option.isSome);rw [List.length_map,hl] at this;exact this);rw [hd,Bool.not_true,Bool.false_or,Bool.and_eq_true,beq_iff_eq,Bool.or_eq_true,Bool.and_eq_true] at h9;refine ⟨h9.1,?_⟩;rcases h9.2 with h | ⟨h1,h2⟩
  ·exact .inl h
  ·refine .inr ⟨fun e=>(by rw [e] at h1;simp at h1),fun i hi=>?_⟩;obtain ⟨j,hj,h3⟩:=List.any_eq_true.1 (List.all_eq_true.1 h2 i hi);rw [Bool.and_eq_true,Bool.and_eq_true,decide_eq_true_eq,Bool.not_eq_true'] at h3;exact ⟨j,List.mem_range.1 hj,h3.1.1,h3.1.2,h3.2⟩
 refine E0_ (fun l b u=>∃ vs:List (Option Value),vs.length=ts.length/\kg deps (vs.map Option.isSome)=true/\l=dP l0 ts (vs.map Option.isSome)/\b=cJ a0 ts vs/\TkJ F box w0 vs u) m ?_ ?_ ?_ ?_ ts.length l0 a0 w y9 ?_;·rintro l b u ⟨vs,-,-,-,-,hJ⟩;exact hS u hJ.1
 ·rintro l b u ⟨vs,hl,hd,rfl,rfl,hJ⟩ hm;obtain ⟨h1,h2⟩:=hP vs hl hd;rcases h2 with h2 | h2;·rw [h2,decide_eq_true_eq] at h1;omega
  ·exact h2.1
 ·rintro l b u i o ⟨vs,hl,hd,rfl,rfl,hJ⟩ hm hi ho K hK;obtain ⟨h1,h2⟩:=hP vs hl hd;rcases h2 with h2 | h2;·rw [h2,decide_eq_true_eq] at h1;omega
  ·obtain ⟨j,hj,rfl,Cy,Cz⟩:=h2.2 i hi;have Dv:ts[j]?=some (ts.getD j (0,0)):=(by rw [nu,ns hj];rfl);have G1:vs[j]?=some none:=by
    rw [nu,nx] at Cy;rw [ns (by omega)] at Cy |-;cases hq:vs[j]'(by omega) with
    | none=>rfl
    | some v=>rw [hq] at Cy;cases Cy
   refine hstep j _ o vs u Dv ho hJ (fun d pW=>?_) K fun v u' K1 hE hb=>?_
   ·have h9:=List.all_eq_true.1 Cz d pW;rw [nu,nx] at h9;cases hq:vs[d]? with
    | none=>rw [hq] at h9;cases h9
    | some q=>cases q with
     | none=>rw [hq] at h9;cases h9
     | some v=>exact ⟨v,rfl⟩
   ·refine hK _ _ ⟨vs.set j (some v),by rw [List.length_set];exact hl,?_,?_,i8_ v ts vs a0 j _ Ct Dv G1,hJ.1.trans hE,fun i v' qg=>?_,fun i i' vn qA hne v1 v2 hv1 qe=>?_⟩;·rw [List.map_set];exact Z4Z hd Cz
    ·rw [List.map_set];exact i9_ ts _ l0 j _ Dv (by rw [nx,G1];rfl)
    ·rw [oK] at qg
     split at qg
     ·rename_i e;subst e;rw [if_pos (by omega)] at qg;cases qg;exact K1
     ·exact hF i u u' v' (hJ.2.1 i v' qg) hE
    ·have IB:∀ q v',box q=true->vs[q]?=some (some v')->v'≠.pointer (some ⟨u.heap.size,0,none⟩):=fun q v' hq qg e=>by
      obtain ⟨g,rfl,hg⟩:=FI q u v' hq (hJ.2.1 q v' qg);simp only [Value.pointer.injEq,Option.some.injEq,Addr.mk.injEq,and_true] at e;omega
     rw [oK] at hv1 qe;by_cases e1:j=i
     ·subst e1;rw [if_pos rfl,if_pos (by omega)] at hv1;rw [if_neg hne] at qe;cases hv1;rw [hb vn];exact fun e=>IB i' v2 qA qe e.symm
     ·rw [if_neg e1] at hv1;by_cases e2:j=i'
      ·subst e2;rw [if_pos rfl,if_pos (by omega)] at qe;cases qe;rw [hb qA];exact IB i v1 vn hv1
      ·rw [if_neg e2] at qe;exact hJ.2.2 i i' vn qA hne v1 v2 hv1 qe
 ·rintro l b u ⟨vs,hl,hd,rfl,rfl,hJ⟩ hm;obtain ⟨h1,h2⟩:=hP vs hl hd;rw [hm,oH rfl] at h1;refine hend vs u hl (fun j hj=>?_) hJ;have h9:=List.all_eq_true.1 h1.symm (vs[j]'(by omega)).isSome (List.mem_map.2 ⟨_,List.getElem_mem _,rfl⟩);cases hq:vs[j]'(by omega) with
  | none=>rw [hq] at h9;cases h9
  | some v=>exact ⟨v,by rw [ns (by omega),hq]⟩
 ·refine ⟨List.replicate ts.length none,by simp,?_,?_,?_,hw,fun j v h=>?_,fun i j _ _ _ v v' h _=>?_⟩
  ·unfold kg;rw [List.all_eq_true];intro j hj;rw [List.map_replicate,nu,List.getElem?_replicate]
   split <;> rfl
  ·rw [List.map_replicate];clear hP hend hstep y9 zA Ct
   induction ts with
   | nil=>rfl
   | cons t ts ih=>rw [List.length_cons,List.replicate_succ];exact ih
  ·clear hP hend hstep y9 zA Ct
   induction ts with
   | nil=>rfl
   | cons t ts ih=>rw [List.length_cons,List.replicate_succ];exact ih
  ·rw [List.getElem?_replicate] at h;split at h <;> simp at h
  ·rw [List.getElem?_replicate] at h;split at h <;> simp at h
theorem c2_ {P:Program} {o:Oper} {a:Act} {w:World} {K:Act->World->Prop} {Q:Exit->Act->World->Prop} (f:Nat) (x:Operand) (T:Array TypeId) (ho:o.op=.call { callee:=.value (.func f),args:=#[x],argTypes:=T }) (he:∀ args w,(callFunc f args).run P w=.ok (.enter f args) w) {vx:Value} (hx:a.eval x=vx)
  (h:Calls P f #[vx] w fun e w'=>∃ v,e=.returned v/\K (a.put o.dst v) w'):o.wp P a w K Q:=by
 unfold Oper.wp;have hr:(execOp a.eval o).run P w=.ok (.enter f #[vx]) w:=by
  have hf:a.eval (.func f)=.func (.func f) #[] #[]:=rfl;simp [execOp,ho,resolve,hf,Deferred.ofValue,invoke,hx,he]
 rw [hr,Oper.upon_enter];refine h.mono ?_;rintro e w' ⟨v,rfl,hk⟩;exact hk
end
def bX (n:Int):Bool:=decide ((aE n.natAbs).size<=1000000000)
def fg (n:Int):Bool:=decide ((aE n.natAbs).size<=400000000)
theorem v9_ (n:Int):bX n=true↔(aE n.natAbs).size<=1000000000:=decide_eq_true_iff
theorem d3_ (n:Int):fg n=true↔(aE n.natAbs).size<=400000000:=decide_eq_true_iff
def aM (k:Int):oQ->List Int->List Int
 | r,[]=>r
 | [],_::_=>[]
 | a::r,b::s=>(a-k*b)::aM k r s
theorem dW (k:Int):∀ r s:oQ,(aM k r s).length=r.length
 | [],[]=>rfl
 | a::r,[]=>rfl
 | [],_::_=>rfl
 | a::r,b::s=>by simp [aM,dW k r s]
theorem I6_ (k:Int):∀ (r s:oQ) (j:Nat) (a b:Int),r[j]?=some a->s[j]?=some b->(aM k r s)[j]?=some (a-k*b)
 | [],_,j,a,b,h,_=>by simp at h
 | _::_,[],j,a,b,_,h=>by simp at h
 | x::r,y::s,0,a,b,h,h'=>by simp at h h';subst h;subst h';rfl
 | x::r,y::s,j+1,a,b,h,h'=>by
  simp only [oD] at h h';exact I6_ k r s j a b h h'
def eX (k:Int) (r s:oQ):Option (oQ) :=
 if k=0 then some r
 else if s.length=r.length/\(fg k && s.all fg && r.all bX)=true then some (aM k r s) else none
def aC (m:oP) (i:Nat):List Int:=m.getD i []
def aD (m:oP) (i c:Nat):Int:=(aC m i).getD c 0
def bQ (c d:Nat) (m:oP):Nat->Option Nat
 | 0=>none
 | k+1=>match bQ c d m k with
  | none=>if aD m (d+k) c=0 then none else some (d+k)
  | some a=>if aD m (d+k) c≠0/\(aD m (d+k) c).natAbs<(aD m a c).natAbs then some (d+k) else some a
def bF {α:Type} (l:List α) (i j:Nat):List α:=match l[i]?,l[j]? with
 | some a,some b=>(l.set i b).set j a
 | _,_=>l
def dL (c d:Nat) (m:oP):Nat->Option (oP×Bool)
 | 0=>some (m,false)
 | j+1=>match dL c d m j with
  | none=>none
  | some (m',rest) =>
   if aD m' d c=0 then none
   else match eX (aQ (aD m' (d+1+j) c) (aD m' d c)) (aC m' (d+1+j)) (aC m' d) with
    | none=>none
    | some r=>some (m'.set (d+1+j) r,rest || decide (bK (aD m' (d+1+j) c) (aD m' d c)≠0))
def dY (c d:Nat) (m:oP):Nat->Option (oP)
 | 0=>some m
 | j+1=>match dY c d m j with
  | none=>none
  | some m' =>
   if aD m' d c=0 then none
   else match eX (aQ (aD m' j c) (aD m' d c)) (aC m' j) (aC m' d) with
    | none=>none
    | some r=>some (m'.set j r)
def bV (n:Nat) (m:oP):Bool:=m.all fun r=>decide (r.length=n) && r.all bX
def eI (n c d:Nat):Nat->oP->Option (oP×Bool)
 | 0,_=>none
 | f+1,m =>
  if bV n m then
   match bQ c d m (m.length-d) with
   | none=>some (m,false)
   | some a=>match dL c d (bF m d a) (m.length-(d+1)) with
    | none=>none
    | some (m2,true)=>eI n c d f m2
    | some (m2,false) =>
     if bV n m2 then
      match dY c d (if aD m2 d c<0 then m2.set d ((aC m2 d).map (- ·)) else m2) d with
      | none=>none
      | some m4=>some (m4,true)
     else none
  else none
def dG (n F:Nat):Nat->Nat->Nat->oP->Option (oP×Nat)
 | 0,_,d,m=>some (m,d)
 | k+1,c,d,m =>
  if d<m.length then
   match eI n c d F m with
   | none=>none
   | some (m',p)=>dG n F k (c+1) (if p then d+1 else d) m'
  else some (m,d)
def dU (n F cols:Nat) (m:oP):Option (oP) :=
 match dG n F cols 0 0 m with
 | none=>none
 | some (m',d)=>some (m'.take d)
def bt (r:oQ):Int:=match r.findIdx? (· != 0) with | some i=>(i:Int) | none=>-1
def dZ (k:Nat) (m:oP):oP:=(m.filter fun r=>decide ((k:Int)<=bt r)).map (·.drop k)
def bI (cols:Nat) (m:oP):oP:=(List.range cols).map fun c=>m.map (fun r=>r.getD c 0)++(List.replicate cols (0:Int)).set c 1
structure an (w:World) (g o:Nat) (xs:oQ):Prop where
 lt:g<w.heap.size
 cell:∀ (j:Nat) x,xs[j]?=some x->w.cell? ⟨g,o+j,none⟩=some (.string (aB x))
 free:∀ j,w.frozen? ⟨g,j,none⟩=false
theorem Y1_ {w w':World} {g:Nat} (h:w'.heap[g]?=w.heap[g]?) (j:Nat):w'.cell? ⟨g,j,none⟩=w.cell? ⟨g,j,none⟩:=by
 simp [World.cell?,h]
theorem W4_ {w w':World} {g:Nat} (h:w'.heap[g]?=w.heap[g]?) (j:Nat):w'.frozen? ⟨g,j,none⟩=w.frozen? ⟨g,j,none⟩:=by
 simp [World.frozen?,h]
theorem an.same {w w':World} {g o:Nat} {xs:oQ} (h:an w g o xs) (hs:w.heap.size<=w'.heap.size) (hg:w'.heap[g]?=w.heap[g]?):an w' g o xs :=
 ⟨n7 h.lt hs,fun j x hx=>(Y1_ hg _).trans (h.cell j x hx),fun j=>(W4_ hg j).trans (h.free j)⟩
theorem an.ext {w w':World} {g o:Nat} {xs:oQ} (h:an w g o xs) (he:aA w w'):an w' g o xs:=h.same he.size (he.block g h.lt)
theorem an.grown {w w':World} {S:Nat->Prop} {g o:Nat} {xs:oQ} (h:an w g o xs) (hg:aH S w w') (hS:¬ S g):an w' g o xs:=h.same hg.size (hg.block g h.lt hS)
theorem j4 (w:World) (g i b:Nat) (v:Value) (h:b≠g):(w.setCell ⟨g,i,none⟩ v).heap[b]?=w.heap[b]?:=by
 by_cases hb:b<w.heap.size;·exact (eL w g i v).block b hb (fun e=>h (by cases e;rfl))
 ·have:(w.setCell ⟨g,i,none⟩ v).heap.size=w.heap.size:=by simp [World.setCell]
  rw [Array.getElem?_eq_none (by omega),Array.getElem?_eq_none (by omega)]
theorem Y3_ (w:World) (a:Addr) (v:Value):(w.setCell a v).heap.size=w.heap.size:=by simp [World.setCell]
theorem V1_ (w:World) (g i j:Nat) (v:Value):(w.setCell ⟨g,i,none⟩ v).frozen? ⟨g,j,none⟩=w.frozen? ⟨g,j,none⟩:=by
 exact World.frozen?_setCell ..
theorem an.set {w:World} {g o:Nat} {xs:oQ} (h:an w g o xs) (k:Nat) (hk:k<xs.length) (y:Int):an (w.setCell ⟨g,o+k,none⟩ (.string (aB y))) g o (xs.set k y):=by
 refine ⟨by rw [Y3_];exact h.lt,fun j x hx=>?_,fun j=>by rw [V1_];exact h.free j⟩;rw [oK] at hx;by_cases hj:k=j
 ·subst hj;rw [if_pos rfl,if_pos hk] at hx;cases hx;exact World.cell?_setCell_same w _ _ (h.cell k xs[k] (ns hk))
 ·rw [if_neg hj] at hx;rw [World.cell?_setCell_other w _ _ _ (by intro e;simp only [Addr.mk.injEq] at e;omega)];exact h.cell j x hx
theorem an.other {w:World} {g o:Nat} {xs:oQ} (h:an w g o xs) (b i:Nat) (v:Value) (hb:g≠b):an (w.setCell ⟨b,i,none⟩ v) g o xs :=
 h.same (by rw [Y3_];exact n9 _) (j4 w b i g v hb)
structure cF (w:World) (g0:Nat) (tags:List (Nat×Nat×Nat)) (m:oP):Prop where
 len:tags.length=m.length
 lt:g0<w.heap.size
 free:∀ j,w.frozen? ⟨g0,j,none⟩=false
 row:∀ (i:Nat) t r,tags[i]?=some t->m[i]?=some r->w.cell? ⟨g0,i,none⟩=some (.slice (some ⟨t.1,t.2.1,none⟩) r.length t.2.2)/\r.length<=t.2.2/\t.2.2<=maxLen/\an w t.1 t.2.1 r
 nodup:(g0::tags.map (·.1)).Nodup
def dp (g0:Nat) (tags:List (Nat×Nat×Nat)) (b:Nat):Prop:=b∈g0::tags.map (·.1)
theorem cF.same {w w':World} {g0:Nat} {tags:List (Nat×Nat×Nat)} {m:oP} (h:cF w g0 tags m) (hs:w.heap.size<=w'.heap.size) (hb:∀ b,dp g0 tags b->w'.heap[b]?=w.heap[b]?):cF w' g0 tags m:=by
 have h0:=hb g0 (List.mem_cons_self ..);refine ⟨h.len,n7 h.lt hs,fun j=>(W4_ h0 j).trans (h.free j),fun i t r ht hr=>?_,h.nodup⟩;obtain ⟨h1,h2,h3,h4⟩:=h.row i t r ht hr;exact ⟨(Y1_ h0 i).trans h1,h2,h3,h4.same hs (hb t.1 (List.mem_cons_of_mem _ (List.mem_map.2 ⟨t,nw ht,rfl⟩)))⟩
theorem cF.blt {w:World} {g0:Nat} {tags:List (Nat×Nat×Nat)} {m:oP} (h:cF w g0 tags m) {b:Nat} (hb:dp g0 tags b):b<w.heap.size:=by
 rcases List.mem_cons.1 hb with rfl | hb;·exact h.lt
 ·obtain ⟨t,ht,rfl⟩:=List.mem_map.1 hb;obtain ⟨i,hi⟩:=List.getElem?_of_mem ht;have hl:i<m.length:=by rw [<- h.len];exact (nt.1 hi).1
  exact (h.row i t m[i] hi (ns hl)).2.2.2.lt
theorem cF.ext {w w':World} {g0:Nat} {tags:List (Nat×Nat×Nat)} {m:oP} (h:cF w g0 tags m) (he:aA w w'):cF w' g0 tags m :=
 h.same he.size fun b hb=>he.block b (h.blt hb)
theorem cF.get {w:World} {g0:Nat} {tags:List (Nat×Nat×Nat)} {m:oP} (h:cF w g0 tags m) (i:Nat) (hi:i<m.length) :
  ∃ t,tags[i]?=some t/\w.cell? ⟨g0,i,none⟩=some (.slice (some ⟨t.1,t.2.1,none⟩) (aC m i).length t.2.2)/\(aC m i).length<=t.2.2/\t.2.2<=maxLen/\an w t.1 t.2.1 (aC m i)/\t.1≠g0:=by
 have hl:i<tags.length:=by rw [h.len];exact hi
 have e:aC m i=m[i]:=by unfold aC;rw [nu,ns hi];rfl
 have:=h.row i tags[i] m[i] (ns hl) (ns hi);refine ⟨tags[i],ns hl,?_⟩;rw [e];refine ⟨this.1,this.2.1,this.2.2.1,this.2.2.2,?_⟩;have hn:=(List.nodup_cons.1 h.nodup).1;intro e2;exact hn (List.mem_map.2 ⟨tags[i],List.getElem_mem hl,e2⟩)
theorem cF.apart {w:World} {g0:Nat} {tags:List (Nat×Nat×Nat)} {m:oP} (h:cF w g0 tags m) {i j:Nat} {s t:Nat×Nat×Nat} (hs:tags[i]?=some s) (ht:tags[j]?=some t) (pO:i≠j):s.1≠t.1:=by
 have hn:=(List.nodup_cons.1 h.nodup).2;intro e;have h1:(tags.map (·.1))[i]?=some s.1:=by rw [nx,hs];rfl
 have h2:(tags.map (·.1))[j]?=some s.1:=by rw [nx,ht,e];rfl
 obtain ⟨l1,e1⟩:=nt.1 h1;obtain ⟨l2,e2⟩:=nt.1 h2;exact pO ((List.getElem_inj hn).1 (e1.trans e2.symm))
theorem cF.setRow {w w':World} {g0:Nat} {tags:List (Nat×Nat×Nat)} {m:oP} (h:cF w g0 tags m) (i:Nat) (hi:i<m.length) (t:Nat×Nat×Nat) (ht:tags[i]?=some t) (r:oQ) (hr:r.length=(aC m i).length) (hg:aH (·=t.1) w w') (hR:an w' t.1 t.2.1 r):cF w' g0 tags (m.set i r):=by
 obtain ⟨t',tF,-,-,-,-,hne⟩:=h.get i hi;obtain rfl:t'=t:=oA (tF.symm.trans ht);have h0:=hg.block g0 h.lt (fun e=>hne e.symm);refine ⟨by rw [List.length_set];exact h.len,n7 h.lt hg.size,fun j=>(W4_ h0 j).trans (h.free j),fun j s q hs hq=>?_,h.nodup⟩;rw [oK] at hq;by_cases hj:i=j
 ·subst hj;rw [if_pos rfl,if_pos hi] at hq;cases hq;obtain rfl:s=t':=oA (hs.symm.trans ht);have e:aC m i=m[i]:=by unfold aC;rw [nu,ns hi];rfl
  obtain ⟨h1,h2,h3,h4⟩:=h.row i s m[i] hs (ns hi);rw [<- e,<- hr] at h1 h2;exact ⟨(Y1_ h0 i).trans h1,h2,h3,hR⟩
 ·rw [if_neg hj] at hq;obtain ⟨h1,h2,h3,h4⟩:=h.row j s q hs hq;exact ⟨(Y1_ h0 j).trans h1,h2,h3,h4.grown hg (h.apart hs ht (fun e=>hj e.symm))⟩
theorem en {m:oP} {i:Nat} (hi:i<m.length):m[i]?=some (aC m i):=by
 unfold aC;rw [nu,ns hi];rfl
theorem eP {m:oP} {i:Nat} {r:oQ} (h:m[i]?=some r):aC m i=r:=by
 unfold aC;rw [nu,h];rfl
theorem fR {m:oP} {i j:Nat} {r:oQ} (hi:i<m.length):aC (m.set i r) j=if j=i then r else aC m j:=by
 unfold aC;rw [nu,nu,oK];by_cases h:i=j;·subst h;rw [if_pos rfl,if_pos rfl,if_pos hi];rfl
 ·rw [if_neg h,if_neg (fun e=>h e.symm)]
theorem nj {α:Type} (l:List α) (i j:Nat):(bF l i j).length=l.length:=by
 unfold bF;split <;> simp
theorem ni {α:Type} {l:List α} {i j:Nat} {a b:α} (hi:l[i]?=some a) (hj:l[j]?=some b):bF l i j=(l.set i b).set j a:=by
 unfold bF;rw [hi,hj]
theorem G0_ {α:Type} (l:List α) (i j:Nat) (x:α) (h:x∈bF l i j):x∈l:=by
 unfold bF at h;cases hi:l[i]? with
 | none=>rw [hi] at h;exact h
 | some a =>
  cases hj:l[j]? with
  | none=>rw [hi,hj] at h;exact h
  | some b =>
   rw [hi,hj] at h;rcases List.mem_or_eq_of_mem_set h with h | h
   ·rcases List.mem_or_eq_of_mem_set h with h | h;·exact h
    ·rw [h];exact nw hj
   ·rw [h];exact nw hi
theorem n5_ {α β:Type} (f:α->β) (l:List α) (i j:Nat):(bF l i j).map f=bF (l.map f) i j:=by
 unfold bF;rw [nx,nx];cases l[i]? with
 | none=>rfl
 | some a=>cases l[j]? with
  | none=>rfl
  | some b=>simp [List.map_set]
theorem Z3J {n:Nat} {m:oP} (h:bV n m=true) (i j:Nat):bV n (bF m i j)=true:=by
 unfold bV at h |-;rw [List.all_eq_true] at h |-;exact fun x hx=>h x (G0_ m i j x hx)
theorem iH {n:Nat} {m:oP} (h:bV n m=true) (i:Nat) (hi:i<m.length):(aC m i).length=n/\(aC m i).all bX=true:=by
 unfold bV at h;have:=List.all_eq_true.1 h (aC m i) (nw (en hi));rw [Bool.and_eq_true,decide_eq_true_iff] at this;exact this
theorem kY {k:Int} {r s r':oQ} (h:eX k r s=some r'):r'.length=r.length:=by
 unfold eX at h
 split at h
 ·rw [<- oA h]
 ·split at h
  ·rw [<- oA h];exact dW k r s
  ·cases h
theorem D5_ (c d:Nat) (m:oP) (j:Nat):dL c d m (j+1)=match dL c d m j with
  | none=>none
  | some (m',rest) =>
   if aD m' d c=0 then none
   else match eX (aQ (aD m' (d+1+j) c) (aD m' d c)) (aC m' (d+1+j)) (aC m' d) with
    | none=>none
    | some r=>some (m'.set (d+1+j) r,rest || decide (bK (aD m' (d+1+j) c) (aD m' d c)≠0)):=rfl
theorem V6_ {c d j:Nat} {m:oP} {y:oP×Bool} (h:dL c d m (j+1)=some y) :
  ∃ m' rest r,dL c d m j=some (m',rest)/\aD m' d c≠0/\eX (aQ (aD m' (d+1+j) c) (aD m' d c)) (aC m' (d+1+j)) (aC m' d)=some r/\y=(m'.set (d+1+j) r,rest || decide (bK (aD m' (d+1+j) c) (aD m' d c)≠0)):=by
 rw [D5_] at h;cases hd:dL c d m j with
 | none=>rw [hd] at h;cases h
 | some p =>
  obtain ⟨m',rest⟩:=p;rw [hd] at h;simp only at h;by_cases h0:aD m' d c=0;·rw [if_pos h0] at h;cases h
  ·rw [if_neg h0] at h;cases hl:eX (aQ (aD m' (d+1+j) c) (aD m' d c)) (aC m' (d+1+j)) (aC m' d) with
   | none=>rw [hl] at h;cases h
   | some r =>
    rw [hl] at h;exact ⟨m',rest,r,rfl,h0,hl,(oA h).symm⟩
theorem a1_ {c d : Nat} {m : oP} {k : Nat} : ∀ {y}, dL c d m k = some y -> ∀ j, j <= k -> ∃ z, dL c d m j = some z := by
  induction k with
  | zero => intro y h j hj; obtain rfl : j = 0 := by omega
            exact ⟨y, h⟩
  | succ k ih =>
    intro y h j hj;by_cases he : j = k + 1;· subst he; exact ⟨y, h⟩
    · obtain ⟨m', rest, r, h1, -⟩ := V6_ h
      exact ih h1 j (by omega)
theorem mw {c d:Nat} {m:oP} {k:Nat}:∀ {m' rest},dL c d m k=some (m',rest)->d+1+k<=m.length->m'.length=m.length/\(∀ i,i<=d\/d+1+k<=i->aC m' i=aC m i)/\(∀ i,(aC m' i).length=(aC m i).length):=by
 induction k with
 | zero =>
  intro m' rest h hk;have h:some (m,false)=some (m',rest):=h;simp only [Option.some.injEq,Prod.mk.injEq] at h;obtain ⟨rfl,-⟩:=h;exact ⟨rfl,fun _ _=>rfl,fun _=>rfl⟩
 | succ k ih =>
  intro m' rest h hk;obtain ⟨m1,r1,r,h1,h2,h3,h4⟩:=V6_ h;obtain ⟨l1,l2,l3⟩:=ih h1 (by omega);simp only [Prod.mk.injEq] at h4;obtain ⟨rfl,-⟩:=h4;have hi:d+1+k<m1.length:=by omega
  refine ⟨by rw [List.length_set];exact l1,fun i qA=>?_,fun i=>?_⟩;·rw [fR hi,if_neg (by omega)];exact l2 i (by omega)
  ·rw [fR hi];by_cases he:i=d+1+k;·rw [if_pos he,he,kY h3];exact l3 _
   ·rw [if_neg he];exact l3 i
theorem c1_ (c d:Nat) (m:oP) (j:Nat):dY c d m (j+1)=match dY c d m j with
  | none=>none
  | some m' =>
   if aD m' d c=0 then none
   else match eX (aQ (aD m' j c) (aD m' d c)) (aC m' j) (aC m' d) with
    | none=>none
    | some r=>some (m'.set j r):=rfl
theorem nk {c d j:Nat} {m:oP} {y:oP} (h:dY c d m (j+1)=some y) :
  ∃ m' r,dY c d m j=some m'/\aD m' d c≠0/\eX (aQ (aD m' j c) (aD m' d c)) (aC m' j) (aC m' d)=some r/\y=m'.set j r:=by
 rw [c1_] at h;cases hd:dY c d m j with
 | none=>rw [hd] at h;cases h
 | some m' =>
  rw [hd] at h;simp only at h;by_cases h0:aD m' d c=0;·rw [if_pos h0] at h;cases h
  ·rw [if_neg h0] at h;cases hl:eX (aQ (aD m' j c) (aD m' d c)) (aC m' j) (aC m' d) with
   | none=>rw [hl] at h;cases h
   | some r =>
    rw [hl] at h;exact ⟨m',r,rfl,h0,hl,(oA h).symm⟩
theorem c0_ {c d : Nat} {m : oP} {k : Nat} : ∀ {y}, dY c d m k = some y -> ∀ j, j <= k -> ∃ z, dY c d m j = some z := by
  induction k with
  | zero => intro y h j hj; obtain rfl : j = 0 := by omega
            exact ⟨y, h⟩
  | succ k ih =>
    intro y h j hj;by_cases he : j = k + 1;· subst he; exact ⟨y, h⟩
    · obtain ⟨m', r, h1, -⟩ := nk h
      exact ih h1 j (by omega)
theorem K1_ {c d:Nat} {m:oP} {k:Nat}:∀ {m'},dY c d m k=some m'->k<=d->d<m.length->m'.length=m.length/\(∀ i,k<=i->aC m' i=aC m i)/\(∀ i,(aC m' i).length=(aC m i).length):=by
 induction k with
 | zero =>
  intro m' h hk hd;have h:some m=some m':=h;obtain rfl:=oA h;exact ⟨rfl,fun _ _=>rfl,fun _=>rfl⟩
 | succ k ih =>
  intro m' h hk hd;obtain ⟨m1,r,h1,h2,h3,rfl⟩:=nk h;obtain ⟨l1,l2,l3⟩:=ih h1 (by omega) hd;have hi:k<m1.length:=by omega
  refine ⟨by rw [List.length_set];exact l1,fun i qA=>?_,fun i=>?_⟩;·rw [fR hi,if_neg (by omega)];exact l2 i (by omega)
  ·rw [fR hi];by_cases he:i=k;·rw [if_pos he,he,kY h3];exact l3 _
   ·rw [if_neg he];exact l3 i
theorem Z0t {α:Type} [DecidableEq α] (l:List α) (i j:Nat):(bF l i j).Perm l:=by
 cases hi:l[i]? with
 | none=>unfold bF;rw [hi]
 | some a =>
  cases hj:l[j]? with
  | none=>unfold bF;rw [hi,hj]
  | some b =>
   rw [ni hi hj,List.perm_iff_count];intro x;have h1:=(nt.1 hi);have h2:=(nt.1 hj);obtain ⟨l1,e1⟩:=h1;obtain ⟨l2,e2⟩:=h2;have AL:j<(l.set i b).length:=(by rw [List.length_set];exact l2);rw [List.count_set AL,List.count_set l1];by_cases pO:i=j
   ·subst pO;rw [List.getElem_set_self];rw [e1] at e2;subst e2;rw [e1];have:(if a == x then 1 else 0)<=l.count x:=by
     split
     ·rename_i hx;rw [<- beq_iff_eq.1 hx];exact List.count_pos_iff.2 (nw hi)
     ·exact Nat.zero_le _
    omega
   ·rw [List.getElem_set_ne pO,e1,e2];have k1:(if a == x then 1 else 0)<=l.count x:=by
     split
     ·rename_i hx;rw [<- beq_iff_eq.1 hx];exact List.count_pos_iff.2 (nw hi)
     ·exact Nat.zero_le _
    have k2:(if b == x then 1 else 0)<=l.count x:=by
     split
     ·rename_i hx;rw [<- beq_iff_eq.1 hx];exact List.count_pos_iff.2 (nw hj)
     ·exact Nat.zero_le _
    omega
theorem cF.swap {w:World} {g0:Nat} {tags:List (Nat×Nat×Nat)} {m:oP} (h:cF w g0 tags m) (d a:Nat) (hd:d<m.length) (ha:a<m.length) (td ta:Nat×Nat×Nat) (yi:tags[d]?=some td) (yj:tags[a]?=some ta) :
  cF ((w.setCell ⟨g0,d,none⟩ (.slice (some ⟨ta.1,ta.2.1,none⟩) (aC m a).length ta.2.2)).setCell ⟨g0,a,none⟩ (.slice (some ⟨td.1,td.2.1,none⟩) (aC m d).length td.2.2)) g0 (bF tags d a) (bF m d a):=by
 obtain ⟨td',Dy,c1,c2,c3,c4,c5⟩:=h.get d hd;obtain rfl:td'=td:=oA (Dy.symm.trans yi);obtain ⟨ta',Dz,e1,e2,e3,e4,e5⟩:=h.get a ha;obtain rfl:ta'=ta:=oA (Dz.symm.trans yj);have hmd:=en hd;have hma:=en ha;rw [ni yi yj,ni hmd hma];obtain ⟨w1,qc⟩:=oO ((w.setCell ⟨g0,d,none⟩ (.slice (some ⟨ta'.1,ta'.2.1,none⟩) (aC m a).length ta'.2.2)).setCell ⟨g0,a,none⟩ (.slice (some ⟨td'.1,td'.2.1,none⟩) (aC m d).length td'.2.2));have hsz:w1.heap.size=w.heap.size:=by rw [qc,Y3_,Y3_]
 have EG:∀ b,b≠g0->w1.heap[b]?=w.heap[b]?:=fun b hb=>by rw [qc,j4 _ _ _ _ _ hb,j4 _ _ _ _ _ hb]
 have C2:∀ j,w1.frozen? ⟨g0,j,none⟩=false:=fun j=>by rw [qc,V1_,V1_];exact h.free j
 have zC:w1.cell? ⟨g0,a,none⟩=some (.slice (some ⟨td'.1,td'.2.1,none⟩) (aC m d).length td'.2.2):=by
  rw [qc];by_cases xB:d=a
  ·subst xB;exact World.cell?_setCell_same _ _ _ (World.cell?_setCell_same w _ _ c1)
  ·exact World.cell?_setCell_same _ _ _ ((World.cell?_setCell_other w _ _ _ (by intro e;simp only [Addr.mk.injEq] at e;exact xB e.2.1)).trans e1)
 have sX:d≠a->w1.cell? ⟨g0,d,none⟩=some (.slice (some ⟨ta'.1,ta'.2.1,none⟩) (aC m a).length ta'.2.2):=fun xB=>by
  rw [qc,World.cell?_setCell_other _ _ _ _ (by intro e;simp only [Addr.mk.injEq] at e;exact xB e.2.1.symm)];exact World.cell?_setCell_same w _ _ c1
 have Ka:∀ j,j≠d->j≠a->w1.cell? ⟨g0,j,none⟩=w.cell? ⟨g0,j,none⟩:=fun j Cz KK=>by
  rw [qc,World.cell?_setCell_other _ _ _ _ (by intro e;simp only [Addr.mk.injEq] at e;exact KK e.2.1.symm),World.cell?_setCell_other _ _ _ _ (by intro e;simp only [Addr.mk.injEq] at e;exact Cz e.2.1.symm)]
 rw [<- qc];clear qc;have hrow:∀ (t:Nat×Nat×Nat) r,t.1≠g0->an w t.1 t.2.1 r->an w1 t.1 t.2.1 r:=fun t r ht hr=>hr.same (by omega) (EG t.1 ht);refine ⟨by simp only [List.length_set];exact h.len,by rw [hsz];exact h.lt,C2,fun i t r ht hr=>?_,?_⟩
 ·have hlt:tags.length=m.length:=h.len;by_cases C1:i=a
  ·subst C1;rw [List.getElem?_set_self (by rw [List.length_set];omega)] at ht;rw [List.getElem?_set_self (by rw [List.length_set];omega)] at hr;obtain rfl:=oA ht;obtain rfl:=oA hr;exact ⟨zC,c2,c3,hrow _ _ c5 c4⟩
  ·rw [List.getElem?_set_ne (fun e=>C1 e.symm)] at ht hr;by_cases hid:i=d
   ·subst hid;rw [List.getElem?_set_self (by omega)] at ht;rw [List.getElem?_set_self (by omega)] at hr;obtain rfl:=oA ht;obtain rfl:=oA hr;exact ⟨sX C1,e2,e3,hrow _ _ e5 e4⟩
   ·rw [List.getElem?_set_ne (fun e=>hid e.symm)] at ht hr;obtain ⟨k1,k2,k3,k4⟩:=h.row i t r ht hr;have hne:t.1≠g0:=by
     intro e;exact (List.nodup_cons.1 h.nodup).1 (List.mem_map.2 ⟨t,nw ht,e⟩)
    exact ⟨(Ka i hid C1).trans k1,k2,k3,hrow _ _ hne k4⟩
 ·have hn:=List.nodup_cons.1 h.nodup;rw [List.nodup_cons];have hsw:((tags.set d ta').set a td').map (·.1)=bF (tags.map (·.1)) d a:=by
   rw [<- ni yi yj,n5_]
  rw [hsw];refine ⟨fun hm=>hn.1 (G0_ _ _ _ _ hm),?_⟩;have hp:(bF (tags.map (·.1)) d a).Perm (tags.map (·.1)):=Z0t _ _ _;exact hp.nodup_iff.2 hn.2
theorem iC (x y:Int) (hy:y≠0):(aQ x y).natAbs*y.natAbs<=x.natAbs+y.natAbs/\(bK x y).natAbs<y.natAbs:=by
 have e:=lZ x y;have h2:(bK x y).natAbs<y.natAbs:=by
  rcases Int.lt_or_gt_of_ne hy with h | h;·have:=m_ x y h;omega
  ·have:=jn x y h;omega
 refine ⟨?_,h2⟩;have h3:y*aQ x y=x-bK x y:=by omega
 have h4:(y*aQ x y).natAbs=y.natAbs*(aQ x y).natAbs:=Int.natAbs_mul _ _;rw [Nat.mul_comm,<- h4,h3];omega
def Z2L (x y:Int):Prop:=(0<=x/\0<y)\/(x<=0/\y<0)
theorem lf (x y:Int) (h:Z2L x y):(aQ x y).natAbs*y.natAbs<=x.natAbs/\(bK x y).natAbs<=x.natAbs/\Z2L (bK x y) y/\(y.natAbs<=x.natAbs->2*(bK x y).natAbs<=x.natAbs):=by
 have e:=lZ x y;have h4:(y*aQ x y).natAbs=y.natAbs*(aQ x y).natAbs:=Int.natAbs_mul _ _;have h3:y*aQ x y=x-bK x y:=by omega
 rcases h with ⟨hx,hy⟩ | ⟨hx,hy⟩
 ·have hr:=jn x y hy;have hq:0<=aQ x y:=by
   rcases Int.lt_or_le (aQ x y) 0 with hn | hn
   ·have:y*aQ x y<=y*(-1):=Int.mul_le_mul_of_nonneg_left (by omega) (by omega);omega
   ·exact hn
  have hp:0<=y*aQ x y:=Int.mul_nonneg (by omega) hq;refine ⟨by rw [Nat.mul_comm,<- h4,h3];omega,by omega,.inl ⟨hr.1,hy⟩,fun hle=>?_⟩;have vF:1<=aQ x y:=by
   rcases Int.lt_or_le (aQ x y) 1 with hn | hn
   ·have h0:aQ x y=0:=(by omega);rw [h0,Int.mul_zero] at h3;omega
   ·exact hn
  have:y*1<=y*aQ x y:=Int.mul_le_mul_of_nonneg_left vF (by omega);omega
 ·have hr:=m_ x y hy;have hq:0<=aQ x y:=by
   rcases Int.lt_or_le (aQ x y) 0 with hn | hn
   ·have:(-y)*aQ x y<=(-y)*(-1):=Int.mul_le_mul_of_nonneg_left (by omega) (by omega);have e2:(-y)*aQ x y=-(y*aQ x y):=Int.neg_mul _ _;omega
   ·exact hn
  have hp:0<=(-y)*aQ x y:=Int.mul_nonneg (by omega) hq;have e2:(-y)*aQ x y=-(y*aQ x y):=Int.neg_mul _ _;refine ⟨by rw [Nat.mul_comm,<- h4,h3];omega,by omega,.inr ⟨hr.2,hy⟩,fun hle=>?_⟩;have vF:1<=aQ x y:=by
   rcases Int.lt_or_le (aQ x y) 1 with hn | hn
   ·have h0:aQ x y=0:=(by omega);rw [h0,Int.mul_zero] at h3;omega
   ·exact hn
  have:(-y)*1<=(-y)*aQ x y:=Int.mul_le_mul_of_nonneg_left vF (by omega);omega
def aN (B:Nat) (r:oQ):Prop:=∀ x∈r,x.natAbs<=B
theorem aN.mono {B B':Nat} {r:oQ} (h:aN B r) (hb:B<=B'):aN B' r:=fun x hx=>n8 (h x hx) hb
theorem aN.getD {B:Nat} {r:oQ} (h:aN B r) (c:Nat):(r.getD c 0).natAbs<=B:=by
 rw [nu];cases hc:r[c]? with
 | none=>simp
 | some x=>exact h x (nw hc)
theorem aN.neg {B:Nat} {r:oQ} (h:aN B r):aN B (r.map (- ·)):=by
 intro x hx;obtain ⟨y,hy,rfl⟩:=List.mem_map.1 hx;rw [Int.natAbs_neg];exact h y hy
theorem L0_ {B C:Nat} (k:Int):∀ (r s:oQ),aN B r->aN C s->aN (B+k.natAbs*C) (aM k r s)
 | r,[],h,_=>by
  have:aM k r []=r:=by cases r <;> rfl
  rw [this];exact h.mono (Nat.le_add_right _ _)
 | [],_::_,_,_=>fun x hx=>by simp [aM] at hx
 | a::r,b::s,h,h'=>by
  intro x hx;unfold aM at hx;rcases List.mem_cons.1 hx with rfl | hx
  ·have h1:=h a (by simp);have h2:=h' b (by simp);have h3:(k*b).natAbs<=k.natAbs*C:=(by rw [Int.natAbs_mul];exact Nat.mul_le_mul_left _ h2);omega
  ·exact L0_ k r s (fun y hy=>h y (by simp [hy])) (fun y hy=>h' y (by simp [hy])) x hx
theorem iE:∀ (r s:oQ),aM 0 r s=r
 | r,[]=>by cases r <;> rfl
 | [],_::_=>rfl
 | a::r,b::s=>by unfold aM;rw [iE r s];simp
theorem du (k:Int) {r s:oQ} (hl:s.length=r.length) (c:Nat):(aM k r s).getD c 0=r.getD c 0-k*s.getD c 0:=by
 simp only [nu];by_cases hc:c<r.length;·rw [I6_ k r s c r[c] (s[c]'(by omega)) (ns hc) (ns _),ns hc,ns (by omega)];rfl
 ·rw [n_ (by rw [dW];omega),n_ (by omega),n_ (by omega)];simp
theorem j5 {x:Int} {K:Nat} (hK:K<=1000000000) (h1:1<=K) (h:x.natAbs<10^K):bX x=true:=(v9_ x).2 (n8 (lr _ K h h1) hK)
theorem Z2l {x:Int} {K:Nat} (hK:K<=400000000) (h1:1<=K) (h:x.natAbs<10^K):fg x=true:=(d3_ x).2 (n8 (lr _ K h h1) hK)
theorem x9_ {K B C:Nat} {k:Int} {r s:oQ} (hK:K<=400000000) (h1:1<=K) (hl:s.length=r.length) (hr:aN B r) (hs:aN C s) (hB:B<10^K) (hC:C<10^K) (hk:k.natAbs<10^K):eX k r s=some (aM k r s):=by
 unfold eX;by_cases h0:k=0;·rw [if_pos h0,h0,iE]
 ·have hc:(fg k && s.all fg && r.all bX)=true:=by
   rw [Bool.and_eq_true,Bool.and_eq_true,List.all_eq_true,List.all_eq_true];exact ⟨⟨Z2l hK h1 hk,fun x hx=>Z2l hK h1 (Nat.lt_of_le_of_lt (hs x hx) hC)⟩,fun x hx=>j5 (by omega) h1 (Nat.lt_of_le_of_lt (hr x hx) hB)⟩
  rw [if_neg h0,if_pos ⟨hl,hc⟩]
def ea (d B:Nat) (m:oP):Prop:=∀ i,d<=i->i<m.length->aN B (aC m i)
def eK (d U:Nat) (m:oP):Prop:=∀ i,i<d->i<m.length->aN U (aC m i)
def ae (n:Nat) (m:oP):Prop:=∀ i,i<m.length->(aC m i).length=n
theorem lu {n K B U d:Nat} {m:oP} (hK:K<=400000000) (h1:1<=K) (hw:ae n m) (hl:ea d B m) (hu:eK d U m) (hB:B<10^K) (hU:U<10^K):bV n m=true:=by
 unfold bV;rw [List.all_eq_true];intro r hr;obtain ⟨i,hi⟩:=List.getElem?_of_mem hr;have him:=(nt.1 hi).1;have hre:=eP hi;rw [Bool.and_eq_true,decide_eq_true_iff,List.all_eq_true];refine ⟨by rw [<- hre];exact hw i him,fun x hx=>?_⟩;by_cases hd:d<=i;·exact j5 (by omega) h1 (Nat.lt_of_le_of_lt (hl i hd him x (by rw [hre];exact hx)) hB)
 ·exact j5 (by omega) h1 (Nat.lt_of_le_of_lt (hu i (by omega) him x (by rw [hre];exact hx)) hU)
theorem jh {c d:Nat} {m:oP}:∀ {k:Nat},bQ c d m k=none->∀ i,d<=i->i<d+k->aD m i c=0
 | 0,_,i,h1,h2=>by omega
 | k+1,h,i,h1,h2=>by
  unfold bQ at h;cases hb:bQ c d m k with
  | none =>
   rw [hb] at h;simp only at h;by_cases h0:aD m (d+k) c=0
   ·by_cases hi:i=d+k;·rw [hi];exact h0
    ·exact jh hb i h1 (by omega)
   ·rw [if_neg h0] at h;cases h
  | some a =>
   rw [hb] at h;simp only at h
   split at h <;> cases h
theorem gY {c d:Nat} {m:oP}:∀ {k a:Nat},bQ c d m k=some a->d<=a/\a<d+k/\aD m a c≠0/\∀ i,d<=i->i<d+k->aD m i c≠0->(aD m a c).natAbs<=(aD m i c).natAbs
 | 0,a,h=>by simp [bQ] at h
 | k+1,a,h=>by
  unfold bQ at h;cases hb:bQ c d m k with
  | none =>
   rw [hb] at h;simp only at h;by_cases h0:aD m (d+k) c=0;·rw [if_pos h0] at h;cases h
   ·rw [if_neg h0] at h;obtain rfl:=oA h;refine ⟨by omega,by omega,h0,fun i h1 h2 h3=>?_⟩;by_cases hi:i=d+k;·rw [hi];exact n9 _
    ·exact absurd (jh hb i h1 (by omega)) h3
  | some b =>
   obtain ⟨b1,b2,b3,b4⟩:=gY hb;rw [hb] at h;simp only at h;by_cases hc:aD m (d+k) c≠0/\(aD m (d+k) c).natAbs<(aD m b c).natAbs
   ·rw [if_pos hc] at h;obtain rfl:=oA h;refine ⟨by omega,by omega,hc.1,fun i h1 h2 h3=>?_⟩;by_cases hi:i=d+k;·rw [hi];exact n9 _
    ·have:=b4 i h1 (by omega) h3;omega
   ·rw [if_neg hc] at h;obtain rfl:=oA h;refine ⟨b1,by omega,b3,fun i h1 h2 h3=>?_⟩;by_cases hi:i=d+k
    ·subst hi;have:¬ (aD m (d+k) c).natAbs<(aD m b c).natAbs:=fun hlt=>hc ⟨h3,hlt⟩;omega
    ·exact b4 i h1 (by omega) h3
theorem Z0Z {c d n K B:Nat} {m:oP} (hK:K<=400000000) (h1:1<=K) (hd:d<m.length) (hw:ae n m) (hp:aD m d c≠0) (hB:ea d B m) (xj:B+2<10^K) :
  ∀ k,d+1+k<=m.length->∃ m' rest,dL c d m k=some (m',rest)/\m'.length=m.length/\(∀ i,i<=d\/d+1+k<=i->aC m' i=aC m i) /\
   (∀ i,d<i->i<d+1+k->aC m' i=aM (aQ (aD m i c) (aD m d c)) (aC m i) (aC m d))/\(rest=false->∀ i,d<i->i<d+1+k->bK (aD m i c) (aD m d c)=0)/\(rest=true->∃ i,d<i/\i<d+1+k/\bK (aD m i c) (aD m d c)≠0)
 | 0,_=>⟨m,false,rfl,rfl,fun _ _=>rfl,fun i h2 h3=>by omega,fun _ i h2 h3=>by omega,fun h=>by cases h⟩
 | k+1,hk=>by
  obtain ⟨m1,r1,e1,l1,a1,b1,f1,t1⟩:=Z0Z hK h1 hd hw hp hB xj k (by omega);have As:aC m1 d=aC m d:=a1 d (.inl (n9 _));have qY:aC m1 (d+1+k)=aC m (d+1+k):=a1 _ (.inr (n9 _));have hpe:aD m1 d c=aD m d c:=by unfold aD;rw [As]
  have Ei:aD m1 (d+1+k) c=aD m (d+1+k) c:=by unfold aD;rw [qY]
  have hil:d+1+k<m.length:=by omega
  have hq:(aQ (aD m (d+1+k) c) (aD m d c)).natAbs<10^K:=by
   have h2:=(iC (aD m (d+1+k) c) (aD m d c) hp).1;have h3:(aD m (d+1+k) c).natAbs<=B:=(hB _ (by omega) hil).getD c;have h4:1<=(aD m d c).natAbs:=(by omega);have h5:(aQ (aD m (d+1+k) c) (aD m d c)).natAbs<=(aD m (d+1+k) c).natAbs+1:=mz _ _;omega
  have hlo:=x9_ (k:=aQ (aD m (d+1+k) c) (aD m d c)) hK h1 (show (aC m d).length=(aC m (d+1+k)).length by rw [hw d hd,hw _ hil]) (hB _ (by omega) hil) (hB d (n9 _) hd) (by omega) (by omega) hq;refine ⟨m1.set (d+1+k) (aM (aQ (aD m (d+1+k) c) (aD m d c)) (aC m (d+1+k)) (aC m d)),r1 || decide (bK (aD m (d+1+k) c) (aD m d c)≠0),?_,by rw [List.length_set];exact l1,fun i hi=>?_,fun i h2 h3=>?_,fun hr i h2 h3=>?_,fun hr=>?_⟩
  ·rw [D5_,e1];simp only;rw [hpe,Ei,As,qY,if_neg hp,hlo]
  ·rw [fR (by omega),if_neg (by omega)];exact a1 i (by omega)
  ·rw [fR (by omega)];by_cases hi:i=d+1+k;·rw [if_pos hi,hi]
   ·rw [if_neg hi];exact b1 i h2 (by omega)
  ·rw [Bool.or_eq_false_iff] at hr;by_cases hi:i=d+1+k;·rw [hi];simpa using hr.2
   ·exact f1 hr.1 i h2 (by omega)
  ·rw [Bool.or_eq_true] at hr;rcases hr with hr | hr;·obtain ⟨i,h2,h3,h4⟩:=t1 hr;exact ⟨i,h2,by omega,h4⟩
   ·exact ⟨d+1+k,by omega,by omega,by simpa using hr⟩
theorem l_ {m:oP} {d a:Nat} (hd:d<m.length) (ha:a<m.length) (i:Nat):aC (bF m d a) i=if i=a then aC m d else if i=d then aC m a else aC m i:=by
 rw [ni (en hd) (en ha),fR (by rw [List.length_set];exact ha)];by_cases h1:i=a;·rw [if_pos h1,if_pos h1]
 ·rw [if_neg h1,if_neg h1,fR hd]
def iz (d c M:Nat) (m:oP):Prop:=∀ i,d<=i->i<m.length->(aD m i c).natAbs<=M
def lE (d c:Nat) (pos:Bool) (m:oP):Prop:=∀ i,d<=i->i<m.length->if pos then 0<=aD m i c else aD m i c<=0
theorem L5_ {n c d K M B U a Q:Nat} {m:oP} (hK:K<=400000000) (h1:1<=K) (hd:d<m.length) (hw:ae n m) (hB:ea d B m) (hU:eK d U m) (hM:iz d c M m) (ha:bQ c d m (m.length-d)=some a) (xj:B+2<10^K)
  (hQ:∀ i,d<=i->i<m.length->(aQ (aD m i c) (aD m a c)).natAbs<=Q) :
  ∃ m2 rest,dL c d (bF m d a) (m.length-(d+1))=some (m2,rest)/\m2.length=m.length/\ae n m2/\ea d (B+Q*B) m2/\eK d U m2/\aD m2 d c=aD m a c/\aN B (aC m2 d) /\
   (∀ i,d<i->i<m.length->∃ k,d<=k/\k<m.length/\aD m2 i c=bK (aD m k c) (aD m a c))/\(rest=false->∀ i,d<i->i<m.length->aD m2 i c=0)/\(rest=true->∃ i,d<i/\i<m.length/\aD m2 i c≠0):=by
 obtain ⟨b1,b2,b3,b4⟩:=gY ha;have pT:a<m.length:=by omega
 have hsl:(bF m d a).length=m.length:=nj m d a;have hrow:=l_ hd pT;have yC:∀ i,d<=i->i<m.length->∃ k,d<=k/\k<m.length/\aC (bF m d a) i=aC m k:=by
  intro i h2 h3;rw [hrow];by_cases e1:i=a;·rw [if_pos e1];exact ⟨d,n9 _,hd,rfl⟩
  ·rw [if_neg e1];by_cases e2:i=d;·rw [if_pos e2];exact ⟨a,b1,pT,rfl⟩
   ·rw [if_neg e2];exact ⟨i,h2,h3,rfl⟩
 have xJ:ae n (bF m d a):=by
  intro i hi;rw [hsl] at hi;rw [hrow];by_cases e1:i=a;·rw [if_pos e1];exact hw d hd
  ·rw [if_neg e1];by_cases e2:i=d;·rw [if_pos e2];exact hw a pT
   ·rw [if_neg e2];exact hw i hi
 have K6:ea d B (bF m d a):=by
  intro i h2 h3;rw [hsl] at h3;obtain ⟨k,k1,k2,k3⟩:=yC i h2 h3;rw [k3];exact hB k k1 k2
 have tM:aC (bF m d a) d=aC m a:=by
  rw [hrow];by_cases e1:d=a;·rw [if_pos e1,e1]
  ·rw [if_neg e1,if_pos rfl]
 have Cr:aD (bF m d a) d c=aD m a c:=by unfold aD;rw [tM]
 obtain ⟨m2,rest,e1,e2,e3,e4,e5,e6⟩:=Z0Z (K:=K) (B:=B) hK h1 (by rw [hsl];exact hd) xJ (by rw [Cr];exact b3) K6 xj (m.length-(d+1)) (by rw [hsl];omega);rw [hsl] at e2;have yE:d+1+(m.length-(d+1))=m.length:=by omega
 rw [yE] at e3 e4 e5 e6;rw [Cr] at e4 e5 e6;have pF:aC m2 d=aC m a:=(e3 d (.inl (n9 _))).trans tM;have xY:∀ i,d<i->i<m.length->∃ k,d<=k/\k<m.length/\aC (bF m d a) i=aC m k/\aD (bF m d a) i c=aD m k c/\aD m2 i c=bK (aD m k c) (aD m a c):=by
  intro i h2 h3;obtain ⟨k,k1,k2,k3⟩:=yC i (by omega) h3;have hg:aD (bF m d a) i c=aD m k c:=by unfold aD;rw [k3]
  refine ⟨k,k1,k2,k3,hg,?_⟩;show (aC m2 i).getD c 0=_;rw [e4 i h2 h3,du _ (by rw [xJ d (by rw [hsl];exact hd),xJ i (by rw [hsl];exact h3)]),tM];have h5:=lZ (aD m k c) (aD m a c);show aD (bF m d a) i c-aQ (aD (bF m d a) i c) (aD m a c)*aD m a c=_;rw [hg,Int.mul_comm];omega
 refine ⟨m2,rest,e1,e2,fun i hi=>?_,fun i h2 h3=>?_,fun i h2 h3=>?_,?_,?_,fun i h2 h3=>?_,fun hr i h2 h3=>?_,fun hr=>?_⟩
 ·rw [e2] at hi;by_cases hid:d<i;·rw [e4 i hid hi,dW];exact xJ i (by rw [hsl];exact hi)
  ·rw [e3 i (.inl (by omega))];exact xJ i (by rw [hsl];exact hi)
 ·rw [e2] at h3;by_cases hid:d<i
  ·obtain ⟨k,k1,k2,k3,k4,-⟩:=xY i hid h3;rw [e4 i hid h3,tM,k3,k4];exact (L0_ _ _ _ (hB k k1 k2) (hB a b1 pT)).mono (Nat.add_le_add_left (Nat.mul_le_mul_right _ (hQ k k1 k2)) _)
  ·obtain rfl:i=d:=(by omega);rw [pF];exact (hB a b1 pT).mono (Nat.le_add_right _ _)
 ·rw [e2] at h3;have hne:i≠a:=by omega
  rw [e3 i (.inl (by omega)),hrow,if_neg hne,if_neg (by omega)];exact hU i h2 h3
 ·show (aC m2 d).getD c 0=_;rw [pF];rfl
 ·rw [pF];exact hB a b1 pT
 ·obtain ⟨k,k1,k2,-,-,k5⟩:=xY i h2 h3;exact ⟨k,k1,k2,k5⟩
 ·obtain ⟨k,k1,k2,-,k4,k5⟩:=xY i h2 h3;rw [k5,<- k4];exact e5 hr i h2 h3
 ·obtain ⟨i,h2,h3,h4⟩:=e6 hr;obtain ⟨k,k1,k2,-,k4,k5⟩:=xY i h2 h3;exact ⟨i,h2,h3,by rw [k5,<- k4];exact h4⟩
theorem Z5R {c d n K C U:Nat} {m:oP} (hK:K<=400000000) (h1:1<=K) (hd:d<m.length) (hw:ae n m) (hp:aD m d c≠0) (hC:aN C (aC m d)) (hU:eK d U m) (yO:C<10^K) (rP:U+2<10^K) :
  ∀ k,k<=d->∃ m',dY c d m k=some m'/\m'.length=m.length/\(∀ i,k<=i->aC m' i=aC m i)/\(∀ i,i<k->aC m' i=aM (aQ (aD m i c) (aD m d c)) (aC m i) (aC m d))
 | 0,_=>⟨m,rfl,rfl,fun _ _=>rfl,fun i h=>by omega⟩
 | k+1,hk=>by
  obtain ⟨m1,e1,l1,a1,b1⟩:=Z5R hK h1 hd hw hp hC hU yO rP k (by omega);have As:aC m1 d=aC m d:=a1 d (by omega);have qY:aC m1 k=aC m k:=a1 k (n9 _);have hpe:aD m1 d c=aD m d c:=by unfold aD;rw [As]
  have Ei:aD m1 k c=aD m k c:=by unfold aD;rw [qY]
  have hq:(aQ (aD m k c) (aD m d c)).natAbs<10^K:=by
   have h3:(aD m k c).natAbs<=U:=(hU k (by omega) (by omega)).getD c;have h5:=mz (aD m k c) (aD m d c);omega
  have hlo:=x9_ (k:=aQ (aD m k c) (aD m d c)) hK h1 (show (aC m d).length=(aC m k).length by rw [hw d hd,hw k (by omega)]) (hU k (by omega) (by omega)) hC (by omega) yO hq;refine ⟨m1.set k (aM (aQ (aD m k c) (aD m d c)) (aC m k) (aC m d)),?_,by rw [List.length_set];exact l1,fun i hi=>?_,fun i hi=>?_⟩
  ·rw [c1_,e1];simp only;rw [hpe,Ei,As,qY,if_neg hp,hlo]
  ·rw [fR (by omega),if_neg (by omega)];exact a1 i (by omega)
  ·rw [fR (by omega)];by_cases he:i=k;·rw [if_pos he,he]
   ·rw [if_neg he];exact b1 i (by omega)
structure mT (n d c C U:Nat) (m m':oP):Prop where
 len:m'.length=m.length
 wid:ae n m'
 low:ea d C m'
 upp:eK d (U+(U+1)*C) m'
 pos:0<aD m' d c
 zero:∀ i,d<i->i<m.length->aD m' i c=0
 red:∀ i,i<d->0<=aD m' i c/\aD m' i c<aD m' d c
theorem Z1a {n c d K C U:Nat} {m2:oP} (hK:K<=400000000) (h1:1<=K) (hd:d<m2.length) (hw:ae n m2) (hC:ea d C m2) (hU:eK d U m2) (hp:aD m2 d c≠0) (hz:∀ i,d<i->i<m2.length->aD m2 i c=0) (yO:C<10^K) (rP:U+2<10^K) :
  ∃ m4,dY c d (if aD m2 d c<0 then m2.set d ((aC m2 d).map (- ·)) else m2) d=some m4/\mT n d c C U m2 m4:=by
 obtain ⟨m3,tI⟩:=oO ((if aD m2 d c<0 then m2.set d ((aC m2 d).map (- ·)) else m2));rw [<- tI];have ou:∀ (r:oQ),(r.map (- ·)).getD c 0=-(r.getD c 0):=by
  intro r;simp only [nu,nx];cases r[c]? <;> simp
 have l3:m3.length=m2.length:=by rw [tI];split <;> simp
 have r3:∀ i,i≠d->aC m3 i=aC m2 i:=by
  intro i hi;rw [tI];split;·rw [fR hd,if_neg hi]
  ·rfl
 have d3:aC m3 d=aC m2 d/\0<aD m2 d c\/aC m3 d=(aC m2 d).map (- ·)/\aD m2 d c<0:=by
  rw [tI];by_cases hn:aD m2 d c<0;·rw [if_pos hn,fR hd,if_pos rfl];exact .inr ⟨rfl,hn⟩
  ·rw [if_neg hn];exact .inl ⟨rfl,by omega⟩
 have ED:0<aD m3 d c:=by
  rcases d3 with ⟨h,h'⟩ | ⟨h,h'⟩
  ·show 0<(aC m3 d).getD c 0;rw [h];exact h'
  ·show 0<(aC m3 d).getD c 0;rw [h,ou];have:(aC m2 d).getD c 0<0:=h';omega
 have hw3:ae n m3:=by
  intro i hi;by_cases he:i=d
  ·rw [he];rcases d3 with ⟨h,-⟩ | ⟨h,-⟩
   ·rw [h];exact hw d hd
   ·rw [h,List.length_map];exact hw d hd
  ·rw [r3 i he];exact hw i (by omega)
 have F8:aN C (aC m3 d):=by
  rcases d3 with ⟨h,-⟩ | ⟨h,-⟩
  ·rw [h];exact hC d (n9 _) hd
  ·rw [h];exact (hC d (n9 _) hd).neg
 have vJ:eK d U m3:=fun i h2 h3=>by rw [r3 i (by omega)];exact hU i h2 (by omega)
 obtain ⟨m4,e1,e2,e3,e4⟩:=Z5R hK h1 (by omega) hw3 (Int.ne_of_gt ED) F8 vJ yO rP d (n9 _);have re:aD m4 d c=aD m3 d c:=by unfold aD;rw [e3 d (n9 _)]
 refine ⟨m4,e1,by omega,fun i hi=>?_,fun i h2 h3=>?_,fun i h2 h3=>?_,by rw [re];exact ED,fun i h2 h3=>?_,fun i h2=>?_⟩
 ·by_cases he:i<d;·rw [e4 i he,dW];exact hw3 i (by omega)
  ·rw [e3 i (by omega)];exact hw3 i (by omega)
 ·rw [e3 i h2];by_cases he:i=d;·rw [he];exact F8
  ·rw [r3 i he];exact hC i h2 (by omega)
 ·rw [e4 i h2];have hx:(aD m3 i c).natAbs<=U:=(vJ i h2 (by omega)).getD c;exact (L0_ _ _ _ (vJ i h2 (by omega)) F8).mono (Nat.add_le_add_left (Nat.mul_le_mul_right _ (n8 (mz _ _) (by omega))) _)
 ·show (aC m4 i).getD c 0=0;rw [e3 i (by omega),r3 i (by omega)];exact hz i h2 h3
 ·have hg:aD m4 i c=bK (aD m3 i c) (aD m3 d c):=by
   show (aC m4 i).getD c 0=_;rw [e4 i h2,du _ (by rw [hw3 d (by omega),hw3 i (by omega)])];have h5:=lZ (aD m3 i c) (aD m3 d c);show aD m3 i c-aQ (aD m3 i c) (aD m3 d c)*aD m3 d c=_;rw [Int.mul_comm];omega
  rw [hg,re];exact jn _ _ ED
section
variable {P:Program} {ops O:Array Oper} {Q:Exit->Act->World->Prop} {md:Region.Mode} {S:World->Prop} {z n:Nat}
theorem tW (i:Nat) {oi:Oper} {v:Value} {f:Nat} {l:Array Bool} {a:Act} {w:World} (hi:ops[i]?=some oi) (hy:Yields P ops oi v a) (h:bU P md ops Q S z f (l.setIfInBounds i true) (a.put oi.dst v) w) (hS:S w:=by assumption) (hs:Region.noSelect ops=true:=by kernel_rfl) (hf:Region.free md ops l i=true:=by kernel_rfl) (hr:(Region.ready md ops l).contains i=true:=by kernel_rfl) (hz:i≠z:=by decide) (hQ:∀ c a w,Q (.panic c) (a.put oi.dst v) w->Q (.panic c) a w:=by exact fun _ _ _ h=>h):bU P md ops Q S z (f+1) l a w:=E3_ i hi hs hf hr hz hQ hy hS h
theorem tL (i:Nat) {oi:Oper} {v:Value} {f:Nat} {l:Array Bool} {a:Act} {w:World} (hi:ops[i]?=some oi) (hy:YieldsIf P ops S oi v a) (h:bU P md ops Q S z f (l.setIfInBounds i true) (a.put oi.dst v) w) (hS:S w:=by assumption) (hs:Region.noSelect ops=true:=by kernel_rfl) (hc:y4_ md ops l=true:=by kernel_rfl) (hf:Region.free md ops l i=true:=by kernel_rfl) (hr:(Region.ready md ops l).contains i=true:=by kernel_rfl) (hz:jV md ops 40 z i=true:=by kernel_rfl) (hQ:∀ c a w,Q (.panic c) (a.put oi.dst v) w->Q (.panic c) a w:=by exact fun _ _ _ h=>h):bU P md ops Q S z (f+1) l a w:=u9_ i hi hs hc hf hr hz hQ hy hS h
end
section
variable {P:Program} {ops O:Array Oper} {Q:Exit->Act->World->Prop} {md:Region.Mode} {S:World->Prop} {z n:Nat}
def lO (is:List Nat) (p:Prop):Prop:=p
def Z6C (ops:Array Oper) (i:Nat) (oi:Oper) (is:List Nat) (p:Prop):Prop:=ops[i]?=some oi->p
theorem rA (is:List Nat) {p:Prop} (h:lO is p):p:=h
theorem rE {p:Prop} (h:p):lO [] p:=h
theorem rW {i:Nat} {is:List Nat} {oi:Oper} {v:Value} {f:Nat} {l:Array Bool} {a:Act} {w:World} (hi:ops[i]?=some oi) (hy:Yields P ops oi v a) (h:lO is (bU P md ops Q S z f (l.setIfInBounds i true) (a.put oi.dst v) w)) (hS:S w:=by assumption) (hs:Region.noSelect ops=true:=by kernel_rfl) (hf:Region.free md ops l i=true:=by kernel_rfl) (hr:(Region.ready md ops l).contains i=true:=by kernel_rfl) (hz:i≠z:=by decide) (hQ:∀ c a w,Q (.panic c) (a.put oi.dst v) w->Q (.panic c) a w:=by exact fun _ _ _ h=>h):lO (i::is) (bU P md ops Q S z (f+1) l a w):=E3_ i hi hs hf hr hz hQ hy hS h
theorem rL {i:Nat} {is:List Nat} {oi:Oper} {v:Value} {f:Nat} {l:Array Bool} {a:Act} {w:World} (hi:ops[i]?=some oi) (hy:YieldsIf P ops S oi v a) (h:lO is (bU P md ops Q S z f (l.setIfInBounds i true) (a.put oi.dst v) w)) (hS:S w:=by assumption) (hs:Region.noSelect ops=true:=by kernel_rfl) (hc:y4_ md ops l=true:=by kernel_rfl) (hf:Region.free md ops l i=true:=by kernel_rfl) (hr:(Region.ready md ops l).contains i=true:=by kernel_rfl) (hz:jV md ops 40 z i=true:=by kernel_rfl) (hQ:∀ c a w,Q (.panic c) (a.put oi.dst v) w->Q (.panic c) a w:=by exact fun _ _ _ h=>h):lO (i::is) (bU P md ops Q S z (f+1) l a w):=u9_ i hi hs hc hf hr hz hQ hy hS h
end
end Go.Proofs.YtoonaddcfakamaaGreatDoor
