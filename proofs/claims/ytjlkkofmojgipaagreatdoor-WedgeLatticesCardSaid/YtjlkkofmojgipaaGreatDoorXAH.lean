import Derived.KernelRfl
import Derived.Test.YtjlkkofmojgipaaGreatDoorXAG
import Derived.Deep.RegionHeld3
set_option linter.unusedVariables false
set_option linter.unusedSimpArgs false
namespace Go.Proofs.YtjlkkofmojgipaaGreatDoor
open Go.RowKit
def cQ (m:List (List Rat)) (i:Nat):List Rat:=m.getD i []
def aH (m:List (List Rat)) (i c:Nat):Rat:=(cQ m i).getD c 0
theorem ng {m:List (List Rat)} {i:Nat} {r:List Rat} (h:m[i]?=some r):cQ m i=r:=by
 unfold cQ;rw [oC,h];rfl
theorem iH {m:List (List Rat)} {i:Nat} (h:i<m.length):m[i]?=some (cQ m i):=by
 rw [ng (n9 h)];exact n9 h
theorem z2_ {m:List (List Rat)} {i c:Nat} {x:Rat} (h:(cQ m i)[c]?=some x):aH m i c=x:=by
 unfold aH;rw [oC,h];rfl
def fC (m:List (List Rat)) (c:Nat):Nat->Nat->Nat
 | 0,a=>a
 | f+1,a=>if aH m a c=0 then fC m c f (a+1) else a
theorem z4_ (m:List (List Rat)) (c:Nat):∀ (f a b:Nat),a<=b->b<=a+f->(∀ j,a<=j->j<b->aH m j c=0)->(b<a+f->aH m b c≠0)->fC m c f a=b
 | 0,a,b,h1,h2,_,_=>by show a=b;omega
 | f+1,a,b,h1,h2,h3,h4=>by
  unfold fC;by_cases qF:a=b
  ·subst qF;rw [if_neg (h4 (by omega))]
  ·rw [if_pos (h3 a (oJ _) (by omega))];exact z4_ m c f (a+1) b (by omega) (by omega) (fun j hj hb=>h3 j (by omega) hb) (fun hb=>h4 (by omega))
def dM {α:Type} (new old:List α) (j:Nat):List α:=new.take j++old.drop j
theorem P9_ {α:Type} (new old:List α):dM new old 0=old:=by simp [dM]
theorem I5_ {α:Type} (new old:List α) (j:Nat) (h:new.length=old.length):(dM new old j).length=old.length:=by
 unfold dM;rw [oU,oF,List.length_drop];omega
theorem I3_ {α:Type} (new old:List α) (j:Nat) (h:new.length=old.length) (hj:old.length<=j):dM new old j=new:=by
 unfold dM;rw [List.take_of_length_le (by omega),List.drop_eq_nil_of_le hj,List.append_nil]
theorem I4_ {α:Type} {new old:List α} {j k:Nat} {a:α} (h:new.length=old.length) (hk:j<=k) (ho:old[k]?=some a):(dM new old j)[k]?=some a:=by
 have hl:=(n_.1 ho).1;unfold dM;rw [oN (by rw [oF];omega),oF,oT,show j+(k-min j new.length)=k by omega];exact ho
theorem I6_ {α:Type} {new old:List α} {j:Nat} {a:α} (h:new.length=old.length) (hn:new[j]?=some a):(dM new old j).set j a=dM new old (j+1):=by
 have hl:=(n_.1 hn).1;have hj:j<old.length:=by omega
 unfold dM;rw [oG,hn,List.set_append_right _ _ (by rw [oF];omega),oF,show j-min j new.length=0 by omega];have e:=List.drop_eq_getElem_cons hj;rw [e,List.set_cons_zero,List.append_assoc];rfl
def dV (r:List Rat) (q:Rat):List Rat:=r.map (· / q)
def fl (r s:List Rat) (f:Rat):List Rat:=List.zipWith (fun x y=>x-f*y) r s
theorem Z00 {r:List Rat} {q x:Rat} {j:Nat} (h:r[j]?=some x):(dV r q)[j]?=some (x / q):=by
 simp [dV,h]
theorem Z0M {r s:List Rat} {f x y:Rat} {j:Nat} (h:r[j]?=some x) (h':s[j]?=some y):(fl r s f)[j]?=some (x-f*y):=by
 simp [fl,List.getElem?_zipWith,h,h']
theorem W8_ (r:List Rat) (q:Rat):(dV r q).length=r.length:=by simp [dV]
theorem B1_ (r s:List Rat) (f:Rat) (h:s.length=r.length):(fl r s f).length=r.length:=by simp [fl,h]
def ie (p:List Rat) (c k i:Nat) (r:List Rat):List Rat:=if i=k\/r.getD c 0=0 then r else fl r p (r.getD c 0)
def da (m:List (List Rat)) (p:List Rat) (c k:Nat):Nat->List (List Rat)
 | 0=>m
 | j+1=>(da m p c k j).set j (ie p c k j (cQ (da m p c k j) j))
theorem kF (m:List (List Rat)) (p:List Rat) (c k j:Nat):(da m p c k j).length=m.length:=by
 induction j with
 | zero=>rfl
 | succ j ih=>show ((da m p c k j).set j _).length=_;rw [List.length_set,ih]
theorem V0_ (m:List (List Rat)) (p:List Rat) (c k:Nat):∀ (j i:Nat),j<=i->(da m p c k j)[i]?=m[i]?
 | 0,i,_=>rfl
 | j+1,i,h=>by
  show ((da m p c k j).set j _)[i]?=_;rw [oV,if_neg (by omega)];exact V0_ m p c k j i (by omega)
theorem Z1s {p:List Rat} {c k i:Nat} {r:List Rat} (h:p.length=r.length):(ie p c k i r).length=r.length:=by
 unfold ie;split
 ·rfl
 ·exact B1_ _ _ _ h
theorem N0_ (m:List (List Rat)) (p:List Rat) (c k:Nat):∀ j,(da m p c k j)[k]?=m[k]?
 | 0=>rfl
 | j+1=>by
  show ((da m p c k j).set j _)[k]?=_;by_cases h:j=k
  ·subst h;rw [oV,if_pos rfl];have e:=V0_ m p c j j j (oJ _);by_cases hl:j<m.length
   ·rw [if_pos (by rw [kF];exact hl)];unfold ie;rw [if_pos (.inl rfl)];rw [<- e];exact (iH (by rw [kF];exact hl)).symm
   ·rw [if_neg (by rw [kF];exact hl),oK (by omega)]
  ·rw [oV,if_neg h];exact N0_ m p c k j
structure fb where
 m:List (List Rat)
 lead:List Nat
 det:Rat
def bI (c:Nat) (s:fb):fb :=
 let k:=s.lead.length
 let a:=fC s.m c (s.m.length-k) k
 if a=s.m.length then ⟨s.m,s.lead,0⟩
 else
  let m1:=if a=k then s.m else bK s.m k a
  let d1:=if a=k then s.det else -s.det
  let f:=aH m1 k c
  let m2:=m1.set k (dV (cQ m1 k) f)
  ⟨da m2 (dV (cQ m1 k) f) c k m2.length,s.lead++[c],d1*f⟩
def aj (m:List (List Rat)):Nat->fb
 | 0=>⟨m,[],1⟩
 | c+1=>bI c (aj m c)
def bg (C:Nat) (m:List (List Rat)):Prop:=∀ r∈m,r.length=C
theorem bg.get {C:Nat} {m:List (List Rat)} (h:bg C m) {i:Nat} {r:List Rat} (hr:m[i]?=some r):r.length=C:=h r (oD hr)
theorem bg.set {C:Nat} {m:List (List Rat)} (h:bg C m) (i:Nat) {r:List Rat} (hr:r.length=C):bg C (m.set i r):=fun q hq=>by
 rcases List.mem_or_eq_of_mem_set hq with hq | rfl
 ·exact h q hq
 ·exact hr
theorem bg.swp {C:Nat} {m:List (List Rat)} (h:bg C m) (i j:Nat):bg C (bK m i j):=by
 unfold Proofs.YtjlkkofmojgipaaGreatDoor.bK
 split
 ·rename_i a b ha hb;exact (h.set i (h.get hb)).set j (h.get ha)
 ·exact h
theorem bg.elim {C:Nat} {m:List (List Rat)} (h:bg C m) {p:List Rat} (hp:p.length=C) (c k:Nat):∀ j,j<=m.length->bg C (da m p c k j)
 | 0,_=>h
 | j+1,hj=>by
  have ih:=bg.elim h hp c k j (by omega);have hr:=ih.get (iH (m:=da m p c k j) (i:=j) (by rw [kF];omega));exact ih.set j (by rw [Z1s (by rw [hp,hr])];exact hr)
theorem i8_ {C c : Nat} {s : fb} (h : bg C s.m) (hk : s.lead.length <= s.m.length) : bg C (bI c s).m /\ (bI c s).m.length = s.m.length /\ (bI c s).lead.length <= s.m.length := by
  unfold bI;simp only;by_cases ha : fC s.m c (s.m.length - s.lead.length) s.lead.length = s.m.length
  · rw [if_pos ha]; exact ⟨h, rfl, hk⟩
  · rw [if_neg ha]
    have hm1 : ∀ a, bg C (if a = s.lead.length then s.m else Proofs.YtjlkkofmojgipaaGreatDoor.bK s.m s.lead.length a) /\ (if a = s.lead.length then s.m else Proofs.YtjlkkofmojgipaaGreatDoor.bK s.m s.lead.length a).length = s.m.length := by
      intro a; split
      · exact ⟨h, rfl⟩
      · exact ⟨h.swp _ _, iQ _ _ _⟩
    have yd : ∀ f a, fC s.m c f a <= a + f := by
      intro f
      induction f with
      | zero => intro a; exact oJ _
      | succ f ih => intro a; unfold fC; split
                     · have := ih (a + 1); omega
                     · omega
    have hlt : s.lead.length < s.m.length := by
      false_or_by_contra
      rename_i hn;have e : s.m.length - s.lead.length = 0 := by omega
      rw [e] at ha;exact ha (by show s.lead.length = _; omega)
    generalize fC s.m c (s.m.length - s.lead.length) s.lead.length = a at *
    obtain ⟨r1, r2⟩ := hm1 a;generalize (if a = s.lead.length then s.m else Proofs.YtjlkkofmojgipaaGreatDoor.bK s.m s.lead.length a) = m1 at *
    have hr := r1.get (iH (m := m1) (i := s.lead.length) (by omega));have hd : (dV (cQ m1 s.lead.length) (aH m1 s.lead.length c)).length = C := by rw [W8_, hr]
    refine ⟨(r1.set _ hd).elim hd c _ _ (oJ _), by rw [kF, List.length_set, r2], by rw [oU]; simp; omega⟩
theorem lP {C:Nat} {m:List (List Rat)} (h:bg C m):∀ c,bg C (aj m c).m/\(aj m c).m.length=m.length/\(aj m c).lead.length<=m.length
 | 0=>⟨h,rfl,Nat.zero_le _⟩
 | c+1=>by
  obtain ⟨h1,h2,h3⟩:=lP h c;obtain ⟨k1,k2,k3⟩:=i8_ (c:=c) h1 (by omega);exact ⟨k1,by show (bI c (aj m c)).m.length=_;omega,by show (bI c (aj m c)).lead.length<=_;omega⟩
def h_ (K:Nat) (m:List (List Rat)):Prop:=∀ r∈m,∀ x∈r,RS K x
theorem h_.get {K:Nat} {m:List (List Rat)} (h:h_ K m) {i j:Nat} {r:List Rat} {x:Rat} (hr:m[i]?=some r) (hx:r[j]?=some x):RS K x:=h r (oD hr) x (oD hx)
theorem h_.swp {K:Nat} {m:List (List Rat)} (h:h_ K m) (i j:Nat):h_ K (Proofs.YtjlkkofmojgipaaGreatDoor.bK m i j):=by
 unfold Proofs.YtjlkkofmojgipaaGreatDoor.bK
 split
 ·rename_i a b ha hb;intro r hr x hx;rcases List.mem_or_eq_of_mem_set hr with hr | rfl
  ·rcases List.mem_or_eq_of_mem_set hr with hr | rfl
   ·exact h r hr x hx
   ·exact h _ (oD hb) x hx
  ·exact h _ (oD ha) x hx
 ·exact h
theorem P3_ (n:Int) (d:Nat) (hd:d≠0):(aD (mkRat n d).num).size<=(aD n).size/\(aE (mkRat n d).den).size<=(aE d).size:=by
 obtain ⟨h1,h2⟩:=X2_ n d hd;rw [h1,h2];exact ⟨Z1o _ _,gY (Nat.div_le_self _ _)⟩
theorem Z4T {K L:Nat} {x y:Rat} (hx:RS K x) (hy:RS L y):RS (K+L+1) (x*y):=by
 have h:=P3_ (x.num*y.num) (x.den*y.den) (Nat.mul_ne_zero x.den_nz y.den_nz);rw [<- Rat.mul_def'] at h;have h1:=im x.num y.num;have h2:=nS x.den y.den;have a1:=hx.1;have a2:=hx.2;have a3:=hy.1;have a4:=hy.2;exact ⟨by omega,by omega⟩
theorem Z5X {K:Nat} {y:Rat} (hy:RS K y) (h0:y≠0):RS (K+1) y⁻¹:=by
 rw [Rat.inv_def];have hn:y.num≠0:=fun h=>h0 (Rat.num_eq_zero.1 h);have a3:=hy.1;have a4:=hy.2;have hs1:=eK (-(y.den:Int));have hs2:=d_ y.num;rw [Int.natAbs_neg] at hs1;have e2:(y.den:Int).natAbs=y.den:=rfl;rw [e2] at hs1;by_cases h:y.num<0
 ·have e:y.num=-(y.num.natAbs:Int):=by omega
  rw [e,E4_ _ _ (by omega)];have:=P3_ (-(y.den:Int)) y.num.natAbs (by omega);exact ⟨by omega,by omega⟩
 ·have e:y.num=(y.num.natAbs:Int):=by omega
  rw [e,E5_];have:=P3_ (y.den:Int) y.num.natAbs (by omega);rw [eb] at this;exact ⟨by omega,by omega⟩
theorem Z4Q {K L:Nat} {x y:Rat} (hx:RS K x) (hy:RS L y) (h0:y≠0):RS (K+L+2) (x / y):=by
 rw [Rat.div_def];exact (Z4T hx (Z5X hy h0)).mono (by omega)
theorem Z60 {K:Nat} {y:Rat} (hy:RS K y):RS (K+1) (-y):=by
 refine ⟨?_,by show (aE y.den).size<=_;have:=hy.2;omega⟩;have h1:=eK (-y.num);have h2:=d_ y.num;rw [Int.natAbs_neg] at h1;rw [Rat.neg_num];have:=hy.1;omega
section
variable {P:Program} {ops:Array Oper} {Q:Exit->Act->World->Prop} {md:Region.Mode} {S:World->Prop} {z:Nat}
def bL (P:Program) (md:Region.Mode) (ops:Array Oper) (Q:Exit->Act->World->Prop) (S:World->Prop) (z:Nat):Nat->Array Bool->Act->World->Prop
 | 0,l,a,w=>Region.ready md ops l=[]/\Q .normal a w
 | f+1,l,a,w=>(Region.ready md ops l=[]->Q .normal a w) /\
  ∀ i∈Region.ready md ops l,wpOp P ops Q i (fun b u=>((l.setIfInBounds i true).getD z false=false->S u)/\bL P md ops Q S z f (l.setIfInBounds i true) b u) a w
theorem B8_:∀ (f:Nat) (l:Array Bool) (a:Act) (w:World),bL P md ops Q S z f l a w->wpAny P md ops Q f l a w
 | 0,_,_,_,h=>h
 | f+1,l,_,_,h=>⟨h.1,fun i hi=>wpOp_mono (fun b u hb=>B8_ f (l.setIfInBounds i true) b u hb.2) (h.2 i hi)⟩
def lV (md:Region.Mode) (ops:Array Oper) (l:Array Bool):Prop:=∀ j o,ops[j]?=some o->l.getD j false=true->∀ e∈o.after,Region.binds md e=true->l.getD e.on false=true
def mu (md:Region.Mode) (ops:Array Oper) (l:Array Bool):Bool:=(List.range ops.size).all fun j=>!(l.getD j false) || match ops[j]? with
 | some o=>o.after.all fun e=>!(Region.binds md e) || l.getD e.on false
 | none=>true
theorem O6_ {l:Array Bool} (h:mu md ops l=true):lV md ops l:=by
 intro j o ho hl e he hb;have h1:=List.all_eq_true.1 h j (List.mem_range.2 (Array.getElem?_eq_some_iff.1 ho).1);simp only [ho,hl,Bool.not_true,Bool.false_or] at h1;have h2:=Array.all_eq_true_iff_forall_mem.1 h1 e he;simpa [hb] using h2
theorem lV.step {l:Array Bool} (h:lV md ops l) {j:Nat} (hj:j∈Region.ready md ops l):lV md ops (l.setIfInBounds j true):=by
 intro k o ho hl e he hb;by_cases hk:j=k
 ·subst hk;obtain ⟨-,o',LO,hall⟩:=mem_ready.1 hj;obtain rfl:o'=o:=oL (LO.symm.trans ho);exact getD_set_true (hall e he hb)
 ·rw [getD_set_ne false hk] at hl;exact getD_set_true (h k o ho hl e he hb)
def gi (md:Region.Mode) (ops:Array Oper):Nat->Nat->Nat->Bool
 | 0,_,_=>false
 | f+1,a,i=>match ops[a]? with
  | some o=>o.after.any fun e=>Region.binds md e && (e.on == i || gi md ops f e.on i)
  | none=>false
theorem Y0_ {l:Array Bool} (hc:lV md ops l) {i:Nat}:∀ (f a:Nat) (o:Oper),ops[a]?=some o->gi md ops f a i=true->(∀ e∈o.after,Region.binds md e=true->l.getD e.on false=true)->l.getD i false=true
 | 0,_,_,_,h,_=>by cases h
 | f+1,a,o,ho,h,hall=>by
  simp only [gi,ho] at h;obtain ⟨e,he,hb⟩:=Array.any_eq_true'.1 h;simp only [Bool.and_eq_true,Bool.or_eq_true,beq_iff_eq] at hb;have hl:=hall e he hb.1;rcases hb.2 with h1 | h1
  ·rw [<- h1];exact hl
  ·cases hq:ops[e.on]? with
   | none=>cases f with
    | zero=>cases h1
    | succ f=>simp only [gi,hq] at h1;cases h1
   | some p=>exact Y0_ hc f e.on p hq h1 fun d hd hbd=>hc e.on p hq hl d hd hbd
theorem N4_ {l:Array Bool} {i:Nat} (h:(l.setIfInBounds i true).getD z false=false):l.getD z false=false:=by
 cases e:l.getD z false
 ·rfl
 ·rw [getD_set_true e] at h;cases h
theorem P6_ {l:Array Bool} {i:Nat} (ui:l.getD i true=false):l.getD i false=false:=by
 by_cases hs:i<l.size
 ·simp [hs] at ui |-;exact ui
 ·simp [Array.getElem?_eq_none (Nat.le_of_not_lt hs)]
theorem F4_ {i n:Nat} {oi:Oper} {v:Value} (hi:ops[i]?=some oi) (sf:∀ (j:Nat) (o:Oper) cs b,ops[j]?=some o->o.op≠.select cs b)
  (hQ:∀ c a w,Q (.panic c) (a.put oi.dst v) w->Q (.panic c) a w) (hz:gi md ops n z i=true) (f:Nat) :
  ∀ (l:Array Bool) (a:Act) (w:World),
   (∀ j oj,ops[j]?=some oj->j≠i->l.getD j true=false->(∀ e∈oj.after,Region.binds md e=true->e.on≠i)->oi.apart ops oj=true) ->
   lV md ops l->i∈Region.ready md ops l->YieldsIf P ops S oi v a->S w ->
   bL P md ops Q S z f (l.setIfInBounds i true) (a.put oi.dst v) w->bL P md ops Q S z (f+1) l a w:=by
 induction f with
 | zero =>
  intro l a w _ _ hr hy hS H;refine ⟨(fun e=>by rw [e] at hr;cases hr),fun j hj=>?_⟩;by_cases e:j=i
  ·rw [e];exact hy.wpOp hi hS ⟨fun _=>hS,H⟩
  ·have:=ready_mono hj e;rw [H.1] at this;cases this
 | succ f ih =>
  intro l a w qL hcl hr hy hS H;refine ⟨(fun e=>by rw [e] at hr;cases hr),fun j hj=>?_⟩;by_cases e:j=i
  ·rw [e];exact hy.wpOp hi hS ⟨fun _=>hS,H⟩
  have yA:i≠j:=fun x=>e x.symm;have un:=(mem_ready.1 hj).1;obtain ⟨oj,wG,hall⟩:=(mem_ready.1 hj).2;have ui:=(mem_ready.1 hr).1;have uf:l.getD i false=true->False:=fun hc=>by rw [P6_ ui] at hc;cases hc
  have LY:j≠z:=fun E1=>by
   subst E1;exact uf (Y0_ hcl n j oj wG hz hall)
  have F0:i≠z:=fun E1=>by
   subst E1;obtain ⟨o2,ho2,DH⟩:=(mem_ready.1 hr).2;exact uf (Y0_ hcl n i o2 ho2 hz DH)
  have hzl:l.getD z false=false:=by
   cases e2:l.getD z false
   ·rfl
   ·exfalso;cases hq:ops[z]? with
    | none=>cases n with
     | zero=>cases hz
     | succ n=>simp only [gi,hq] at hz;cases hz
    | some o3=>exact uf (Y0_ hcl n z o3 hq hz fun d hd hbd=>hcl z o3 hq e2 d hd hbd)
  have AH:∀ d∈oj.after,Region.binds md d=true->d.on≠i:=fun d hd hb sH=>uf (by have:=hall d hd hb;rwa [sH] at this);have step:=wpOp_putIf wG (qL j oj wG e un AH) (fun cs b=>sf i oi cs b hi) (fun cs b=>sf j oj cs b wG) hQ hy (H.2 j (ready_mono hj e));refine wpOp_mono (fun b u hb=>?_) step;obtain ⟨qg,vl,pV⟩:=hb;have zX:S u:=vl (by rw [getD_set_ne false LY,getD_set_ne false F0];exact hzl);refine ⟨fun _=>zX,ih (l.setIfInBounds j true) b u (fun k ok hk Cw y7 hn=>?_) (hcl.step hj) (ready_mono hr yA) qg zX ?_⟩
  ·refine qL k ok hk Cw ?_ hn;by_cases zQ:j=k
   ·rw [<- zQ];exact un
   ·rw [getD_set_ne true zQ] at y7;exact y7
  ·rw [Array.setIfInBounds_comm _ _ e];exact pV
theorem m0_ {i:Nat} {oi:Oper} {v:Value} (hi:ops[i]?=some oi) (sf:∀ (j:Nat) (o:Oper) cs b,ops[j]?=some o->o.op≠.select cs b)
  (hQ:∀ c a w,Q (.panic c) (a.put oi.dst v) w->Q (.panic c) a w) (F0:i≠z) (f:Nat) :
  ∀ (l:Array Bool) (a:Act) (w:World),
   (∀ j oj,ops[j]?=some oj->j≠i->l.getD j true=false->(∀ e∈oj.after,Region.binds md e=true->e.on≠i)->oi.apart ops oj=true) ->
   i∈Region.ready md ops l->Yields P ops oi v a->(l.getD z false=false->S w) ->
   bL P md ops Q S z f (l.setIfInBounds i true) (a.put oi.dst v) w->bL P md ops Q S z (f+1) l a w:=by
 induction f with
 | zero =>
  intro l a w _ hr hy hS H;refine ⟨(fun e=>by rw [e] at hr;cases hr),fun j hj=>?_⟩;by_cases e:j=i
  ·rw [e];exact hy.wpOp hi ⟨fun h=>hS (N4_ h),H⟩
  ·have:=ready_mono hj e;rw [H.1] at this;cases this
 | succ f ih =>
  intro l a w qL hr hy hS H;refine ⟨(fun e=>by rw [e] at hr;cases hr),fun j hj=>?_⟩;by_cases e:j=i
  ·rw [e];exact hy.wpOp hi ⟨fun h=>hS (N4_ h),H⟩
  have yA:i≠j:=fun x=>e x.symm;have un:=(mem_ready.1 hj).1;obtain ⟨oj,wG,hall⟩:=(mem_ready.1 hj).2;have ui:=(mem_ready.1 hr).1;have uf:l.getD i false=true->False:=fun hc=>by rw [P6_ ui] at hc;cases hc
  have AH:∀ d∈oj.after,Region.binds md d=true->d.on≠i:=fun d hd hb sH=>uf (by have:=hall d hd hb;rwa [sH] at this);have step:=wpOp_put wG (qL j oj wG e un AH) (fun cs b=>sf i oi cs b hi) (fun cs b=>sf j oj cs b wG) hQ hy (H.2 j (ready_mono hj e));refine wpOp_mono (fun b u hb=>?_) step;obtain ⟨qg,vl,pV⟩:=hb;have zX:(l.setIfInBounds j true).getD z false=false->S u:=fun h=>vl (by rw [Array.setIfInBounds_comm _ _ yA,getD_set_ne false F0];exact h);refine ⟨zX,ih (l.setIfInBounds j true) b u (fun k ok hk Cw y7 hn=>?_) (ready_mono hr yA) qg zX ?_⟩
  ·refine qL k ok hk Cw ?_ hn;by_cases zQ:j=k
   ·rw [<- zQ];exact un
   ·rw [getD_set_ne true zQ] at y7;exact y7
  ·rw [Array.setIfInBounds_comm _ _ e];exact pV
theorem v8_ (i:Nat) {oi:Oper} {v:Value} {f:Nat} {l:Array Bool} {a:Act} {w:World} (hi:ops[i]?=some oi)
  (hs:Region.noSelect ops=true) (hc:mu md ops l=true) (hf:Region.free md ops l i=true) (hr:(Region.ready md ops l).contains i=true) (hz:gi md ops 40 z i=true)
  (hQ:∀ c a w,Q (.panic c) (a.put oi.dst v) w->Q (.panic c) a w) (hy:YieldsIf P ops S oi v a) (hS:S w)
  (h:bL P md ops Q S z f (l.setIfInBounds i true) (a.put oi.dst v) w):bL P md ops Q S z (f+1) l a w :=
 F4_ hi (Region.noSelect_spec hs) hQ hz f l a w (Region.free_spec hi hf) (O6_ hc) (by simpa using hr) hy hS h
theorem Q2_ (i:Nat) {oi:Oper} {v:Value} {f:Nat} {l:Array Bool} {a:Act} {w:World} (hi:ops[i]?=some oi)
  (hs:Region.noSelect ops=true) (hf:Region.free md ops l i=true) (hr:(Region.ready md ops l).contains i=true) (hz:i≠z)
  (hQ:∀ c a w,Q (.panic c) (a.put oi.dst v) w->Q (.panic c) a w) (hy:Yields P ops oi v a) (hS:S w)
  (h:bL P md ops Q S z f (l.setIfInBounds i true) (a.put oi.dst v) w):bL P md ops Q S z (f+1) l a w :=
 m0_ hi (Region.noSelect_spec hs) hQ hz f l a w (Region.free_spec hi hf) (by simpa using hr) hy (fun _=>hS) h
theorem dO (i:Nat) {o:Oper} {f:Nat} {l:Array Bool} {a:Act} {w:World} (hr:Region.ready md ops l=[i]) (ho:ops[i]?=some o)
  (h:∀ K:Act->World->Prop,Shut (∀ b u,S u->(S u->bL P md ops Q S z f (l.setIfInBounds i true) b u)->K b u)->if Region.wanted o (yielded ops a.tmps)=true then Oper.wp P o a w K Q else K (a.put o.dst undef) w):bL P md ops Q S z (f+1) l a w:=by
 refine ⟨(fun e=>by rw [hr] at e;cases e),fun j hj=>?_⟩;obtain rfl:j=i:=by rw [hr] at hj;simpa using hj
 exact wpOp_step ho fun K hK=>h K fun b u hS pV=>hK b u ⟨fun _=>hS,pV hS⟩
theorem lh (i:Nat) {o:Oper} {f:Nat} {l:Array Bool} {a:Act} {w:World} (hr:Region.ready md ops l=[i]) (hz:(l.setIfInBounds i true).getD z false=true) (ho:ops[i]?=some o)
  (h:∀ K:Act->World->Prop,Shut (∀ b u,bL P md ops Q S z f (l.setIfInBounds i true) b u->K b u)->if Region.wanted o (yielded ops a.tmps)=true then Oper.wp P o a w K Q else K (a.put o.dst undef) w):bL P md ops Q S z (f+1) l a w:=by
 refine ⟨(fun e=>by rw [hr] at e;cases e),fun j hj=>?_⟩;obtain rfl:j=i:=by rw [hr] at hj;simpa using hj
 exact wpOp_step ho fun K hK=>h K fun b u pV=>hK b u ⟨(fun e=>by rw [hz] at e;cases e),pV⟩
theorem fL (i:Nat) {o:Oper} {f:Nat} {l:Array Bool} {a:Act} {w:World} (hr:Region.ready md ops l=[i]) (ph:Region.ready md ops (l.setIfInBounds i true)=[]) (hz:(l.setIfInBounds i true).getD z false=true) (ho:ops[i]?=some o)
  (h:∀ K:Act->World->Prop,Shut (∀ b u,Q .normal b u->K b u)->if Region.wanted o (yielded ops a.tmps)=true then Oper.wp P o a w K Q else K (a.put o.dst undef) w):bL P md ops Q S z (f+1) l a w:=by
 refine ⟨(fun e=>by rw [hr] at e;cases e),fun j hj=>?_⟩;obtain rfl:j=i:=by rw [hr] at hj;simpa using hj
 refine wpOp_step ho fun K hK=>h K fun b u hq=>hK b u ⟨(fun e=>by rw [hz] at e;cases e),?_⟩;cases f with
 | zero=>exact ⟨ph,hq⟩
 | succ f=>exact ⟨fun _=>hq,by rw [ph];simp⟩
theorem iP (S:World->Prop) (z:Nat) {id:Nat} {a:Act} {w:World} (hm:P.follows .mixedOrders=true) (hS:S w.drew)
  (h:S w.drew->bL P .any ops Q S z ops.size (Array.replicate ops.size false) a w.drew):(Code.region id ops true).wp P Q a w :=
 wp_region_any hm (B8_ _ _ _ _ (h hS))
end
section
variable {P:Program} {ops O:Array Oper} {Q:Exit->Act->World->Prop} {md:Region.Mode} {S:World->Prop} {z n:Nat}
theorem tW (i:Nat) {oi:Oper} {v:Value} {f:Nat} {l:Array Bool} {a:Act} {w:World} (hi:ops[i]?=some oi) (hy:Yields P ops oi v a) (h:bL P md ops Q S z f (l.setIfInBounds i true) (a.put oi.dst v) w) (hS:S w:=by assumption) (hs:Region.noSelect ops=true:=by kernel_rfl) (hf:Region.free md ops l i=true:=by kernel_rfl) (hr:(Region.ready md ops l).contains i=true:=by kernel_rfl) (hz:i≠z:=by decide) (hQ:∀ c a w,Q (.panic c) (a.put oi.dst v) w->Q (.panic c) a w:=by exact fun _ _ _ h=>h):bL P md ops Q S z (f+1) l a w:=Q2_ i hi hs hf hr hz hQ hy hS h
theorem tL (i:Nat) {oi:Oper} {v:Value} {f:Nat} {l:Array Bool} {a:Act} {w:World} (hi:ops[i]?=some oi) (hy:YieldsIf P ops S oi v a) (h:bL P md ops Q S z f (l.setIfInBounds i true) (a.put oi.dst v) w) (hS:S w:=by assumption) (hs:Region.noSelect ops=true:=by kernel_rfl) (hc:mu md ops l=true:=by kernel_rfl) (hf:Region.free md ops l i=true:=by kernel_rfl) (hr:(Region.ready md ops l).contains i=true:=by kernel_rfl) (hz:gi md ops 40 z i=true:=by kernel_rfl) (hQ:∀ c a w,Q (.panic c) (a.put oi.dst v) w->Q (.panic c) a w:=by exact fun _ _ _ h=>h):bL P md ops Q S z (f+1) l a w:=v8_ i hi hs hc hf hr hz hQ hy hS h
end
section
variable {P:Program} {ops O:Array Oper} {Q:Exit->Act->World->Prop} {md:Region.Mode} {S:World->Prop} {z n:Nat}
def ji (is:List Nat) (p:Prop):Prop:=p
def Z6l (ops:Array Oper) (i:Nat) (oi:Oper) (is:List Nat) (p:Prop):Prop:=ops[i]?=some oi->p
theorem rA (is:List Nat) {p:Prop} (h:ji is p):p:=h
theorem rE {p:Prop} (h:p):ji [] p:=h
theorem rW {i:Nat} {is:List Nat} {oi:Oper} {v:Value} {f:Nat} {l:Array Bool} {a:Act} {w:World} (hi:ops[i]?=some oi) (hy:Yields P ops oi v a) (h:ji is (bL P md ops Q S z f (l.setIfInBounds i true) (a.put oi.dst v) w)) (hS:S w:=by assumption) (hs:Region.noSelect ops=true:=by kernel_rfl) (hf:Region.free md ops l i=true:=by kernel_rfl) (hr:(Region.ready md ops l).contains i=true:=by kernel_rfl) (hz:i≠z:=by decide) (hQ:∀ c a w,Q (.panic c) (a.put oi.dst v) w->Q (.panic c) a w:=by exact fun _ _ _ h=>h):ji (i::is) (bL P md ops Q S z (f+1) l a w):=Q2_ i hi hs hf hr hz hQ hy hS h
theorem rL {i:Nat} {is:List Nat} {oi:Oper} {v:Value} {f:Nat} {l:Array Bool} {a:Act} {w:World} (hi:ops[i]?=some oi) (hy:YieldsIf P ops S oi v a) (h:ji is (bL P md ops Q S z f (l.setIfInBounds i true) (a.put oi.dst v) w)) (hS:S w:=by assumption) (hs:Region.noSelect ops=true:=by kernel_rfl) (hc:mu md ops l=true:=by kernel_rfl) (hf:Region.free md ops l i=true:=by kernel_rfl) (hr:(Region.ready md ops l).contains i=true:=by kernel_rfl) (hz:gi md ops 40 z i=true:=by kernel_rfl) (hQ:∀ c a w,Q (.panic c) (a.put oi.dst v) w->Q (.panic c) a w:=by exact fun _ _ _ h=>h):ji (i::is) (bL P md ops Q S z (f+1) l a w):=v8_ i hi hs hc hf hr hz hQ hy hS h
end
end Go.Proofs.YtjlkkofmojgipaaGreatDoor
