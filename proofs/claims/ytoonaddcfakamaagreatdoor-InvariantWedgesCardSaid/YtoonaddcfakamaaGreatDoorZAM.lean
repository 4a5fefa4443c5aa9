import Derived.Test.YtoonaddcfakamaaGreatDoorZAL
import Derived.Test.YtoonaddcfakamaaGreatDoorZAA
import Derived.Laws.AppendOwnNone
import Derived.Deep.CutRange
import Derived.Test.YtoonaddcfakamaaGreatDoorZAI
import Derived.Test.YtoonaddcfakamaaGreatDoorZAF
set_option linter.unusedVariables false
set_option linter.unusedSimpArgs false
set_option maxRecDepth 1000000
set_option maxHeartbeats 16000000
namespace Go.Proofs.YtoonaddcfakamaaGreatDoor
open Go.RowKit Go.Proofs.Tryz
theorem Z2C:(prog.info? 246).map (fun i=>(i.zero,i.size,i.bytes))=some (some (.agg #[.string ⟨#[]⟩,.string ⟨#[]⟩]),2,32):=by kernel_rfl
theorem Z4I:(prog.info? 267).map (fun i=>(i.zero,i.size,i.bytes))=some (some (.slice none 0 0),1,24):=by kernel_rfl
def ratR (_:World) (u:List Value) (q:Rat):Prop:=u=[.string (aB q.num),.string (aE q.den)]
theorem ratR.mono:iE ratR:=fun _ _ _ _ _ h=>h
abbrev dS (w:World) (v:Value) (xs:List Rat):Prop:=aN 2 ratR w v xs
theorem dS.ext {w w':World} {v:Value} {xs:List Rat} (h:dS w v xs) (he:aA w w'):dS w' v xs:=aN.ext ratR.mono h he
def bp (l:List Rat):List Value:=(l.map fun q:Rat=>[Value.string (aB q.num),Value.string (aE q.den)]).flatten
theorem Y6_ (a b:List Rat):bp (a++b)=bp a++bp b:=by simp [bp]
theorem fN:∀ l:List Rat,(bp l).length=l.length*2
 | []=>rfl
 | q::l=>by
  have h:=fN l;unfold bp at h |-;rw [List.map_cons,List.flatten_cons,pG,h];simp;omega
theorem V3_ {l:List Rat} {j:Nat} {q:Rat} (h:l[j]?=some q):(bp l)[j*2]?=some (.string (aB q.num))/\(bp l)[j*2+1]?=some (.string (aE q.den)):=by
 have hk:∀ u∈(l.map fun q:Rat=>[Value.string (aB q.num),Value.string (aE q.den)]),u.length=2:=by
  intro u hu;obtain ⟨x,-,rfl⟩:=List.mem_map.1 hu;rfl
 have hm:(l.map fun q:Rat=>[Value.string (aB q.num),Value.string (aE q.den)])[j]?=some [Value.string (aB q.num),Value.string (aE q.den)]:=by rw [oh,h];rfl
 have h0:=X1_ _ j 0 _ hk hm (by omega);have h1:=X1_ _ j 1 _ hk hm (by omega);exact ⟨h0,h1⟩
def dc (B:Nat) (w:World) (v:Value) (l:List Rat):Prop:=w.ownsRow B 246 2 v l.length (bp l)
theorem dc.nil (B:Nat) (w:World):dc B w (.slice none 0 0) []:=World.ownsRow_nil w B 246 2
theorem dc.ext {B:Nat} {w w':World} {v:Value} {l:List Rat} (h:dc B w v l) (he:aA w w'):dc B w' v l:=et h he
theorem dc.lt {B:Nat} {w:World} {v:Value} {l:List Rat} (h:dc B w v l):∀ b,v.ownBlock=some b->B<=b/\b<w.heap.size:=World.ownsRow.lt h
theorem dc.form {B:Nat} {w:World} {v:Value} {l:List Rat} (h:dc B w v l):∃ a cap,v=.slice a l.length cap/\l.length<=cap/\cap<=9223372036854775807:=by
 rcases h.2 with ⟨rfl,hn⟩ | ⟨g,cap,cur,rfl,hb,hg,h1,h2,h3,h4⟩
 ·exact ⟨none,0,by rw [hn],by omega,by omega⟩
 ·exact ⟨_,cap,rfl,h1,h2⟩
theorem dc.low {B B':Nat} {w:World} {v:Value} {l:List Rat} (h:dc B w v l) (hb:B'<=B):dc B' w v l:=by
 refine ⟨h.1,?_⟩;rcases h.2 with h' | ⟨g,cap,cur,rfl,hg,rest⟩
 ·exact .inl h'
 ·exact .inr ⟨g,cap,cur,rfl,ow hb hg,rest⟩
theorem dc.row {B g n c:Nat} {w:World} {l:List Rat} (h:dc B w (.slice (some ⟨g,0,none⟩) n c) l):d_ w g l:=by
 obtain rfl:n=l.length:=by
  obtain ⟨a,cap,hv,-⟩:=h.form;simp only [Value.slice.injEq] at hv;exact hv.2.1
 have hl:=h.lt g (by simp [Value.ownBlock]);have hc:=World.ownsRow.cells h (g:=g) (by simp [Value.ownBlock]);have py:∀ j,(⟨g,0,none⟩:Addr).add j=⟨g,j,none⟩:=fun j=>by unfold Addr.add;split <;> simp_all
 refine ⟨hl.2,fun j x hx=>?_,fun j x hx=>?_,fun j=>World.ownsRow.frozenAt h j⟩
 ·have:=hc (j*2) _ (V3_ hx).1;rw [py] at this;exact this
 ·have:=hc (j*2+1) _ (V3_ hx).2;rw [py] at this;exact this
theorem dc.rats {B:Nat} {w:World} {v:Value} {l:List Rat} (h:dc B w v l):dS w v l:=by
 refine ⟨l.map fun q:Rat=>[Value.string (aB q.num),Value.string (aE q.den)],by simp,?_,show dN w v l.length (bp l) from dN.of_owns (show w.ownsRow B 246 2 v l.length (bp l) from h),?_⟩
 ·intro u hu;obtain ⟨x,-,rfl⟩:=List.mem_map.1 hu;rfl
 ·intro j u x hu hx;rw [oh,hx] at hu;exact (o5 hu).symm
theorem d_.rats {w:World} {g c:Nat} {l:List Rat} (h:d_ w g l) (h1:l.length<=c) (h2:c<=9223372036854775807):dS w (.slice (some ⟨g,0,none⟩) l.length c) l:=by
 refine ⟨l.map fun q:Rat=>[Value.string (aB q.num),Value.string (aE q.den)],by simp,?_,?_,?_⟩
 ·intro u hu;obtain ⟨x,-,rfl⟩:=List.mem_map.1 hu;rfl
 ·refine ⟨_,c,rfl,h1,by unfold maxLen;omega,fun e=>by simp at e,fun _=>⟨g,0,rfl,h.lt,fun j u hu=>?_⟩⟩;rw [Nat.zero_add];have hj:j<(bp l).length:=(od.1 hu).1;rw [fN] at hj;obtain ⟨q,hq⟩:∃ q,l[j / 2]?=some q:=⟨_,oc (by omega)⟩;obtain ⟨e0,e1⟩:=V3_ hq;by_cases hp:j%2=0
  ·rw [show j / 2*2=j by omega] at e0;have:u=.string (aB q.num):=o5 (hu.symm.trans e0);rw [this,<- h.num _ q hq,show j / 2*2=j by omega]
  ·rw [show j / 2*2+1=j by omega] at e1;have:u=.string (aE q.den):=o5 (hu.symm.trans e1);rw [this,<- h.den _ q hq,show j / 2*2+1=j by omega]
 ·intro j u x hu hx;rw [oh,hx] at hu;exact (o5 hu).symm
theorem dS.one (w:World) (q:Rat) (T:TypeId):dS (w.alloc (.cells #[.string (aB q.num),.string (aE q.den)] T)) (.slice (some ⟨w.heap.size,0,none⟩) 1 1) [q]:=by
 refine ⟨[[.string (aB q.num),.string (aE q.den)]],rfl,by simp,?_,?_⟩;·exact dN.lit w [.string (aB q.num),.string (aE q.den)] 1 T (by unfold maxLen;omega)
 ·intro j u x hu hx;cases j with
  | zero =>
   simp only [o_,Option.some.injEq] at hu hx;subst hu;subst hx;rfl
  | succ j=>simp at hu
theorem Y3_ (W:World) {ops:Array Oper} {rest:List Oper} {o:Oper} {a:Act} {Q:Exit->Act->World->Prop} (qj:o.guard=none)
  (s x:Operand) (ho:o.op=Op.call { callee:=Callee.builtin Builtin.append,args:=#[s,x],argTypes:=#[267,267] }) (B:Nat)
  (v u:Value) (xs ys:List Rat) (hs:a.eval s=v) (hB:dc B W v xs) (hx:a.eval x=u) (hu:dS W u ys) (hlen:xs.length+ys.length<1000000) (pX:B<=W.heap.size)
  (h:∀ v' w',dc B w' v' (xs++ys)->Below B W w'->W.grownBy w' v.ownBlock->wpList prog ops Q rest (a.put o.dst v') w') :
  wpList prog ops Q (o::rest) a W:=by
 obtain ⟨i0,hi,hz,pZ,qK⟩:=info_parts Z2C;obtain ⟨ad,c,rfl,h1,h2,h3,h4⟩:=hu.open
 have GF:∀ w',W.grownBy w' v.ownBlock->Below B W w':=fun w' hg=>⟨hg.os,hg.tape,hg.output,hg.size,fun b hb=>hg.block b (by omega) fun e=>by
  have:=(hB.lt b e.symm).1
  omega⟩
 cases ad with
 | none =>
  obtain rfl:c=0:=h3 rfl;obtain rfl:ys=[]:=List.eq_nil_of_length_eq_zero (by omega);rw [List.append_nil] at h;refine wpList_append_own_none qj s x _ ho B 246 i0 2 underlying267 hi v xs.length (bp xs) hs hB hx ?_;exact h v W hB (Below.refl _ _) (World.grownBy.refl _ _)
 | some ad =>
  refine wpList_plain qj fun K hK=>?_;refine iR W s x _ ho B 246 i0 (.agg #[.string ⟨#[]⟩,.string ⟨#[]⟩]) 2 32 underlying267 hi hz pZ qK rfl (by decide) v xs.length (bp xs) hs hB ad ys.length c (bp ys) hx (fN ys) ?_ ?_ ?_ ?_ pX ?_
  ·intro j q hq;have hj:j<(bp ys).length:=(od.1 hq).1;rw [fN] at hj;obtain ⟨b,off,e,hb,hc⟩:=h4 (by omega) (by intro e;rw [e] at hj;simp at hj);cases e;obtain ⟨r,hr⟩:∃ r,ys[j / 2]?=some r:=⟨_,oc (by omega)⟩;obtain ⟨cs,-,rfl,vM⟩:=hc _ r hr;have h0:=vM 0 (by omega);have h1:=vM 1 (by omega);obtain ⟨e0,e1⟩:=V3_ hr;rw [show (⟨b,off,none⟩:Addr).add j=⟨b,off+j,none⟩ by unfold Addr.add;split <;> simp_all];by_cases hp:j%2=0
   ·rw [show j / 2*2=j by omega] at e0;rw [show off+(j / 2*2+0)=off+j by omega] at h0;rw [h0,<- hq,e0];rfl
   ·rw [show j / 2*2+1=j by omega] at e1;rw [show off+(j / 2*2+1)=off+j by omega] at h1;rw [h1,<- hq,e1];rfl
  ·intro z hz;unfold bp at hz;obtain ⟨l,hl,hz⟩:=List.mem_flatten.1 hz;obtain ⟨q,-,rfl⟩:=List.mem_map.1 hl;simp only [List.mem_cons,List.not_mem_nil,or_false] at hz;rcases hz with rfl | rfl <;> rfl
  ·unfold maxLen;omega
  ·omega
  ·intro v' w' hown pQ _ qb;have rG:dc B w' v' (xs++ys):=by
    unfold dc;rw [pG,Y6_];exact hown
   exact hK _ _ (h v' w' rG (GF w' pQ) pQ)
def cE (m:List (List Rat)) (i:Nat):List Rat:=m.getD i []
def aJ (m:List (List Rat)) (i c:Nat):Rat:=(cE m i).getD c 0
theorem lr {m:List (List Rat)} {i:Nat} {r:List Rat} (h:m[i]?=some r):cE m i=r:=by
 unfold cE;rw [oe,h];rfl
theorem iI {m:List (List Rat)} {i:Nat} (h:i<m.length):m[i]?=some (cE m i):=by
 rw [lr (oc h)];exact oc h
theorem ns {m:List (List Rat)} {i c:Nat} {x:Rat} (h:(cE m i)[c]?=some x):aJ m i c=x:=by
 unfold aJ;rw [oe,h];rfl
def fR (m:List (List Rat)) (c:Nat):Nat->Nat->Nat
 | 0,a=>a
 | f+1,a=>if aJ m a c=0 then fR m c f (a+1) else a
theorem v1_ (m:List (List Rat)) (c:Nat):∀ (f a b:Nat),a<=b->b<=a+f->(∀ j,a<=j->j<b->aJ m j c=0)->(b<a+f->aJ m b c≠0)->fR m c f a=b
 | 0,a,b,h1,h2,_,_=>by show a=b;omega
 | f+1,a,b,h1,h2,h3,h4=>by
  unfold fR;by_cases qL:a=b
  ·subst qL;rw [if_neg (h4 (by omega))]
  ·rw [if_pos (h3 a (oz _) (by omega))];exact v1_ m c f (a+1) b (by omega) (by omega) (fun j hj hb=>h3 j (by omega) hb) (fun hb=>h4 (by omega))
def eK {α:Type} (new old:List α) (j:Nat):List α:=new.take j++old.drop j
theorem z0_ {α:Type} (new old:List α):eK new old 0=old:=by simp [eK]
theorem m9_ {α:Type} (new old:List α) (j:Nat) (h:new.length=old.length):(eK new old j).length=old.length:=by
 unfold eK;rw [pG,om,List.length_drop];omega
theorem m7_ {α:Type} (new old:List α) (j:Nat) (h:new.length=old.length) (hj:old.length<=j):eK new old j=new:=by
 unfold eK;rw [List.take_of_length_le (by omega),List.drop_eq_nil_of_le hj,List.append_nil]
theorem m8_ {α:Type} {new old:List α} {j k:Nat} {a:α} (h:new.length=old.length) (hk:j<=k) (ho:old[k]?=some a):(eK new old j)[k]?=some a:=by
 have hl:=(od.1 ho).1;unfold eK;rw [o8 (by rw [om];omega),om,pF,show j+(k-min j new.length)=k by omega];exact ho
theorem l0_ {α:Type} {new old:List α} {j:Nat} {a:α} (h:new.length=old.length) (hn:new[j]?=some a):(eK new old j).set j a=eK new old (j+1):=by
 have hl:=(od.1 hn).1;have hj:j<old.length:=by omega
 unfold eK;rw [ou,hn,List.set_append_right _ _ (by rw [om];omega),om,show j-min j new.length=0 by omega];have e:=List.drop_eq_getElem_cons hj;rw [e,List.set_cons_zero,List.append_assoc];rfl
def dW (r:List Rat) (q:Rat):List Rat:=r.map (· / q)
def gI (r s:List Rat) (f:Rat):List Rat:=List.zipWith (fun x y=>x-f*y) r s
theorem Z0I {r:List Rat} {q x:Rat} {j:Nat} (h:r[j]?=some x):(dW r q)[j]?=some (x / q):=by
 simp [dW,h]
theorem Z1w {r s:List Rat} {f x y:Rat} {j:Nat} (h:r[j]?=some x) (h':s[j]?=some y):(gI r s f)[j]?=some (x-f*y):=by
 simp [gI,List.getElem?_zipWith,h,h']
theorem V4_ (r:List Rat) (q:Rat):(dW r q).length=r.length:=by simp [dW]
theorem y4_ (r s:List Rat) (f:Rat) (h:s.length=r.length):(gI r s f).length=r.length:=by simp [gI,h]
def ib (p:List Rat) (c k i:Nat) (r:List Rat):List Rat:=if i=k\/r.getD c 0=0 then r else gI r p (r.getD c 0)
def di (m:List (List Rat)) (p:List Rat) (c k:Nat):Nat->List (List Rat)
 | 0=>m
 | j+1=>(di m p c k j).set j (ib p c k j (cE (di m p c k j) j))
theorem kT (m:List (List Rat)) (p:List Rat) (c k j:Nat):(di m p c k j).length=m.length:=by
 induction j with
 | zero=>rfl
 | succ j ih=>show ((di m p c k j).set j _).length=_;rw [List.length_set,ih]
theorem V5_ (m:List (List Rat)) (p:List Rat) (c k:Nat):∀ (j i:Nat),j<=i->(di m p c k j)[i]?=m[i]?
 | 0,i,_=>rfl
 | j+1,i,h=>by
  show ((di m p c k j).set j _)[i]?=_;rw [pH,if_neg (by omega)];exact V5_ m p c k j i (by omega)
theorem Z2i {p:List Rat} {c k i:Nat} {r:List Rat} (h:p.length=r.length):(ib p c k i r).length=r.length:=by
 unfold ib;split;·rfl
 ·exact y4_ _ _ _ h
theorem O9_ (m:List (List Rat)) (p:List Rat) (c k:Nat):∀ j,(di m p c k j)[k]?=m[k]?
 | 0=>rfl
 | j+1=>by
  show ((di m p c k j).set j _)[k]?=_;by_cases h:j=k
  ·subst h;rw [pH,if_pos rfl];have e:=V5_ m p c j j j (oz _);by_cases hl:j<m.length
   ·rw [if_pos (by rw [kT];exact hl)];unfold ib;rw [if_pos (.inl rfl)];rw [<- e];exact (iI (by rw [kT];exact hl)).symm
   ·rw [if_neg (by rw [kT];exact hl),o4 (by omega)]
  ·rw [pH,if_neg h];exact O9_ m p c k j
structure fI where
 m:List (List Rat)
 lead:List Nat
 det:Rat
def cF (c:Nat) (s:fI):fI :=
 let k:=s.lead.length
 let a:=fR s.m c (s.m.length-k) k
 if a=s.m.length then ⟨s.m,s.lead,0⟩
 else
  let m1:=if a=k then s.m else b8 s.m k a
  let d1:=if a=k then s.det else -s.det
  let f:=aJ m1 k c
  let m2:=m1.set k (dW (cE m1 k) f)
  ⟨di m2 (dW (cE m1 k) f) c k m2.length,s.lead++[c],d1*f⟩
def aq (m:List (List Rat)):Nat->fI
 | 0=>⟨m,[],1⟩
 | c+1=>cF c (aq m c)
def b_ (C:Nat) (m:List (List Rat)):Prop:=∀ r∈m,r.length=C
theorem b_.get {C:Nat} {m:List (List Rat)} (h:b_ C m) {i:Nat} {r:List Rat} (hr:m[i]?=some r):r.length=C:=h r (og hr)
theorem b_.set {C:Nat} {m:List (List Rat)} (h:b_ C m) (i:Nat) {r:List Rat} (hr:r.length=C):b_ C (m.set i r):=fun q hq=>by
 rcases List.mem_or_eq_of_mem_set hq with hq | rfl;·exact h q hq
 ·exact hr
theorem b_.swp {C:Nat} {m:List (List Rat)} (h:b_ C m) (i j:Nat):b_ C (b8 m i j):=by
 unfold Proofs.YtoonaddcfakamaaGreatDoor.b8
 split
 ·rename_i a b ha hb;exact (h.set i (h.get hb)).set j (h.get ha)
 ·exact h
theorem b_.elim {C:Nat} {m:List (List Rat)} (h:b_ C m) {p:List Rat} (hp:p.length=C) (c k:Nat):∀ j,j<=m.length->b_ C (di m p c k j)
 | 0,_=>h
 | j+1,hj=>by
  have ih:=b_.elim h hp c k j (by omega);have hr:=ih.get (iI (m:=di m p c k j) (i:=j) (by rw [kT];omega));exact ih.set j (by rw [Z2i (by rw [hp,hr])];exact hr)
theorem d2_ {C c : Nat} {s : fI} (h : b_ C s.m) (hk : s.lead.length <= s.m.length) : b_ C (cF c s).m /\ (cF c s).m.length = s.m.length /\ (cF c s).lead.length <= s.m.length := by
  unfold cF;simp only;by_cases ha : fR s.m c (s.m.length - s.lead.length) s.lead.length = s.m.length;· rw [if_pos ha]; exact ⟨h, rfl, hk⟩
  · rw [if_neg ha]
    have qp : ∀ a, b_ C (if a = s.lead.length then s.m else Proofs.YtoonaddcfakamaaGreatDoor.b8 s.m s.lead.length a) /\ (if a = s.lead.length then s.m else Proofs.YtoonaddcfakamaaGreatDoor.b8 s.m s.lead.length a).length = s.m.length := by
      intro a; split;· exact ⟨h, rfl⟩
      · exact ⟨h.swp _ _, nB _ _ _⟩
    have yv : ∀ f a, fR s.m c f a <= a + f := by
      intro f
      induction f with
      | zero => intro a; exact oz _
      | succ f ih => intro a; unfold fR; split
                     · have := ih (a + 1); omega
                     · omega
    have hlt : s.lead.length < s.m.length := by
      false_or_by_contra
      rename_i hn;have e : s.m.length - s.lead.length = 0 := by omega
      rw [e] at ha;exact ha (by show s.lead.length = _; omega)
    generalize fR s.m c (s.m.length - s.lead.length) s.lead.length = a at *
    obtain ⟨r1, r2⟩ := qp a;generalize (if a = s.lead.length then s.m else Proofs.YtoonaddcfakamaaGreatDoor.b8 s.m s.lead.length a) = m1 at *
    have hr := r1.get (iI (m := m1) (i := s.lead.length) (by omega));have hd : (dW (cE m1 s.lead.length) (aJ m1 s.lead.length c)).length = C := by rw [V4_, hr]
    refine ⟨(r1.set _ hd).elim hd c _ _ (oz _), by rw [kT, List.length_set, r2], by rw [pG]; simp; omega⟩
theorem oJ {C:Nat} {m:List (List Rat)} (h:b_ C m):∀ c,b_ C (aq m c).m/\(aq m c).m.length=m.length/\(aq m c).lead.length<=m.length
 | 0=>⟨h,rfl,Nat.zero_le _⟩
 | c+1=>by
  obtain ⟨h1,h2,h3⟩:=oJ h c;obtain ⟨k1,k2,k3⟩:=d2_ (c:=c) h1 (by omega);exact ⟨k1,by show (cF c (aq m c)).m.length=_;omega,by show (cF c (aq m c)).lead.length<=_;omega⟩
def gK (K:Nat) (m:List (List Rat)):Prop:=∀ r∈m,∀ x∈r,RS K x
theorem gK.get {K:Nat} {m:List (List Rat)} (h:gK K m) {i j:Nat} {r:List Rat} {x:Rat} (hr:m[i]?=some r) (hx:r[j]?=some x):RS K x:=h r (og hr) x (og hx)
theorem gK.swp {K:Nat} {m:List (List Rat)} (h:gK K m) (i j:Nat):gK K (Proofs.YtoonaddcfakamaaGreatDoor.b8 m i j):=by
 unfold Proofs.YtoonaddcfakamaaGreatDoor.b8
 split
 ·rename_i a b ha hb;intro r hr x hx;rcases List.mem_or_eq_of_mem_set hr with hr | rfl
  ·rcases List.mem_or_eq_of_mem_set hr with hr | rfl;·exact h r hr x hx
   ·exact h _ (og hb) x hx
  ·exact h _ (og ha) x hx
 ·exact h
theorem P2_ (n:Int) (d:Nat) (hd:d≠0):(aB (mkRat n d).num).size<=(aB n).size/\(aE (mkRat n d).den).size<=(aE d).size:=by
 obtain ⟨h1,h2⟩:=X2_ n d hd;rw [h1,h2];exact ⟨Z2g _ _,jQ (Nat.div_le_self _ _)⟩
theorem Z5C {K L:Nat} {x y:Rat} (hx:RS K x) (hy:RS L y):RS (K+L+1) (x*y):=by
 have h:=P2_ (x.num*y.num) (x.den*y.den) (Nat.mul_ne_zero x.den_nz y.den_nz);rw [<- Rat.mul_def'] at h;have h1:=kV x.num y.num;have h2:=oG x.den y.den;have a1:=hx.1;have a2:=hx.2;have a3:=hy.1;have a4:=hy.2;exact ⟨by omega,by omega⟩
theorem Z70 {K:Nat} {y:Rat} (hy:RS K y) (h0:y≠0):RS (K+1) y⁻¹:=by
 rw [Rat.inv_def];have hn:y.num≠0:=fun h=>h0 (Rat.num_eq_zero.1 h);have a3:=hy.1;have a4:=hy.2;have hs1:=fx (-(y.den:Int));have hs2:=eE y.num;rw [Int.natAbs_neg] at hs1;have e2:(y.den:Int).natAbs=y.den:=rfl;rw [e2] at hs1;by_cases h:y.num<0
 ·have e:y.num=-(y.num.natAbs:Int):=by omega
  rw [e,C5_ _ _ (by omega)];have:=P2_ (-(y.den:Int)) y.num.natAbs (by omega);exact ⟨by omega,by omega⟩
 ·have e:y.num=(y.num.natAbs:Int):=by omega
  rw [e,C6_];have:=P2_ (y.den:Int) y.num.natAbs (by omega);rw [eb] at this;exact ⟨by omega,by omega⟩
theorem Z5w {K L:Nat} {x y:Rat} (hx:RS K x) (hy:RS L y) (h0:y≠0):RS (K+L+2) (x / y):=by
 rw [Rat.div_def];exact (Z5C hx (Z70 hy h0)).mono (by omega)
theorem Z75 {K:Nat} {y:Rat} (hy:RS K y):RS (K+1) (-y):=by
 refine ⟨?_,by show (aE y.den).size<=_;have:=hy.2;omega⟩;have h1:=fx (-y.num);have h2:=eE y.num;rw [Int.natAbs_neg] at h1;rw [Rat.neg_num];have:=hy.1;omega
theorem n7:aB 1=⟨#[49]⟩:=by unfold aB Lib.itoa;rw [if_neg (by omega),show (1:Int).toNat=1 from rfl,Lib.decDigits_one (by omega)];rfl
theorem ik:aE 1=⟨#[49]⟩:=by unfold aE;rw [Lib.decDigits_one (by omega)];rfl
theorem H3_:aB 0=⟨#[48]⟩:=by unfold aB Lib.itoa;rw [if_neg (by omega),show (0:Int).toNat=0 from rfl,Lib.decDigits_one (by omega)];rfl
theorem K1_:bR 1=.agg #[.string ⟨#[49]⟩,.string ⟨#[49]⟩]:=by
 show Value.agg #[.string (aB 1),.string (aE 1)]=_;rw [n7,ik]
theorem G4_:bR 0=.agg #[.string ⟨#[48]⟩,.string ⟨#[49]⟩]:=by
 show Value.agg #[.string (aB 0),.string (aE 1)]=_;rw [H3_,ik]
theorem Z0n (w:World):pI 274 #[] w (bR 1):=by
 rw [K1_]
 go_enter func274,ntmps274
 go_wp2
 refine bodyPost_ret (results_cell_row (by rfl) _ _ w.heap.size 246 #[.string ⟨#[49]⟩,.string ⟨#[49]⟩] (0,0) _ (by rfl) (heap_alloc_new _ _) underlying246 (by rfl) (by kernel_rfl)) (by rfl) ⟨rfl,aA.alloc _ _⟩
theorem F6_ (w:World):pI 276 #[] w (bR 0):=by
 rw [G4_]
 go_enter func276,ntmps276
 go_wp2
 refine bodyPost_ret (results_cell_row (by rfl) _ _ w.heap.size 246 #[.string ⟨#[48]⟩,.string ⟨#[49]⟩] (0,0) _ (by rfl) (heap_alloc_new _ _) underlying246 (by rfl) (by kernel_rfl)) (by rfl) ⟨rfl,aA.alloc _ _⟩
theorem I8_ {S S':Nat->Prop} {w w1 w2:World} (h:aH S w w1) (g:aH S' w1 w2) (hS:∀ b,S' b->w.heap.size<=b\/S b):aH S w w2 :=
 ⟨g.os.trans h.os,g.tape.trans h.tape,g.output.trans h.output,ow h.size g.size,fun k hk hn=>(g.block k (ov hk h.size) (fun hs=>by
  rcases hS k hs with h1 | h1;·omega
  ·exact hn h1)).trans (h.block k hk hn)⟩
def dD (w:World) (D:Nat) (q:Rat):Prop:=w.heap[D]?=some (.cells #[.string (aB q.num),.string (aE q.den)] 246 (0,0))
theorem dD.ext {w w':World} {D:Nat} {q:Rat} (h:dD w D q) (he:aA w w'):dD w' D q:=aF h he
theorem dD.grown {w w':World} {S:Nat->Prop} {D:Nat} {q:Rat} (h:dD w D q) (hg:aH S w w') (hS:¬ S D):dD w' D q:=(hg.block D (cG h) hS).trans h
theorem dD.cells {w:World} {D:Nat} {q:Rat} (h:dD w D q):w.cell? ⟨D,0,none⟩=some (.string (aB q.num))/\w.cell? ⟨D,1,none⟩=some (.string (aE q.den))/\w.frozen? ⟨D,0,none⟩=false/\w.frozen? ⟨D,1,none⟩=false:=by
 obtain ⟨a,b,c⟩:=dI h;exact ⟨a,b,c 0,c 1⟩
theorem dD.set {w:World} {D:Nat} {q:Rat} (h:dD w D q) (r:Rat):dD ((w.setCell ⟨D,0,none⟩ (.string (aB r.num))).setCell ⟨D,1,none⟩ (.string (aE r.den))) D r:=kK h
def dR (B:Nat) (w:World) (v:Value) (l:List Nat):Prop:=w.ownsRow B 3 1 v l.length (l.map fun c:Nat=>Value.int .i64 (c:Int))
theorem dR.nil (B:Nat) (w:World):dR B w (.slice none 0 0) []:=World.ownsRow_nil w B 3 1
theorem dR.ext {B:Nat} {w w':World} {v:Value} {l:List Nat} (h:dR B w v l) (he:aA w w'):dR B w' v l:=et h he
theorem dR.lt {B:Nat} {w:World} {v:Value} {l:List Nat} (h:dR B w v l):∀ b,v.ownBlock=some b->B<=b/\b<w.heap.size:=World.ownsRow.lt h
theorem dR.form {B:Nat} {w:World} {v:Value} {l:List Nat} (h:dR B w v l):∃ a cap,v=.slice a l.length cap/\l.length<=cap/\cap<=9223372036854775807:=by
 rcases h.2 with ⟨rfl,hn⟩ | ⟨g,cap,cur,rfl,hb,hg,h1,h2,h3,h4⟩
 ·exact ⟨none,0,by rw [hn],by omega,by omega⟩
 ·exact ⟨_,cap,rfl,h1,h2⟩
theorem dR.grown {S:Nat->Prop} {B:Nat} {w w':World} {v:Value} {l:List Nat} (h:dR B w v l) (hg:aH S w w') (hS:∀ b,S b->b<B):dR B w' v l:=by
 refine ⟨h.1,?_⟩;rcases h.2 with h' | ⟨g,cap,cur,rfl,hb,sh,rest⟩
 ·exact .inl h'
 ·exact .inr ⟨g,cap,cur,rfl,hb,(hg.block g (Array.getElem?_eq_some_iff.1 sh).1 (fun hs=>by have:=hS g hs;omega)).trans sh,rest⟩
def Z7k (_:World) (u:List Value) (x:Nat):Prop:=u=[.int .i64 (x:Int)]
theorem dR.build {B:Nat} {w:World} {v:Value} {l:List Nat} (h:dR B w v l):ai w B 3 1 v Z7k l:=by
 refine ⟨l.map fun x:Nat=>[Value.int .i64 (x:Int)],by simp,by simp,?_,?_⟩;·rw [eR];exact h
 ·intro j u x hu hx w' _;simp only [oh,hx,Option.map_some,Option.some.injEq] at hu;exact hu.symm
theorem ai.ownI {B:Nat} {w:World} {v:Value} {l:List Nat} (h:ai w B 3 1 v Z7k l):dR B w v l:=by
 obtain ⟨us,h1,h2,h3,h4⟩:=h;have:us=l.map fun x:Nat=>[Value.int .i64 (x:Int)]:=by
  apply List.ext_getElem?;intro i;rw [oh];by_cases hi:i<l.length
  ·have rD:i<us.length:=(by omega);have:=(h4 i us[i] l[i] (by simp [rD]) (by simp [hi])).now;simp only [Z7k] at this;simp [hi,rD,this]
  ·rw [o4 (by omega),o4 (by omega)];rfl
 rw [this,eR] at h3;exact h3
theorem X6_ (x:Rat):(x.num.sign == 0)=decide (x=0):=by
 rw [Bool.eq_iff_iff,beq_iff_eq,decide_eq_true_iff,Int.sign_eq_zero_iff_zero,Rat.num_eq_zero]
structure cN (w0 wr:World) (g0 D:Nat) (pU:List (Nat×Nat)) (m1:List (List Rat)) (d1:Rat) (v:Value) (ld:List Nat) (tags:List (Nat×Nat)):Prop where
 mat:c8 wr g0 tags m1
 box:dD wr D d1
 lead:dR (D+1) wr v ld
 same:∀ b,dA g0 tags b↔dA g0 pU b
 grown:aH (dA g0 pU) w0 wr
 size:D<wr.heap.size
theorem cN.ext {w0 wr w':World} {g0 D:Nat} {pU:List (Nat×Nat)} {m1:List (List Rat)} {d1:Rat} {v:Value} {ld:List Nat} {tags:List (Nat×Nat)} (h:cN w0 wr g0 D pU m1 d1 v ld tags) (he:aA wr w'):cN w0 w' g0 D pU m1 d1 v ld tags :=
 ⟨h.mat.ext he,h.box.ext he,h.lead.ext he,h.same,h.grown.trans (he.grownS _),ov h.size he.size⟩
theorem cN.setBox {w0 wr:World} {g0 D:Nat} {pU:List (Nat×Nat)} {m1:List (List Rat)} {d1:Rat} {v:Value} {ld:List Nat} {tags:List (Nat×Nat)} (h:cN w0 wr g0 D pU m1 d1 v ld tags) (hb:∀ b,dA g0 tags b->b<D) (hD:w0.heap.size<=D) (q:Rat) :
  cN w0 ((wr.setCell ⟨D,0,none⟩ (.string (aB q.num))).setCell ⟨D,1,none⟩ (.string (aE q.den))) g0 D pU m1 q v ld tags:=by
 have hgr:aH (·=D) wr ((wr.setCell ⟨D,0,none⟩ (.string (aB q.num))).setCell ⟨D,1,none⟩ (.string (aE q.den))):=((aH.refl (·=D) wr).store (S:=(·=D)) rfl _ _).store (S:=(·=D)) rfl _ _;exact ⟨h.mat.grown hgr (fun b ql e=>by have:=hb b ql;omega),h.box.set q,h.lead.grown hgr (fun b e=>by omega),h.same,I8_ h.grown hgr (fun b e=>.inl (by omega)),by rw [g_,g_];exact h.size⟩
structure nJ (w0 wr:World) (g0 D:Nat) (pU:List (Nat×Nat)) (m0:List (List Rat)) (c:Nat) (v:Value) (tags:List (Nat×Nat)):Prop where
 mat:c8 wr g0 tags (aq m0 c).m
 box:dD wr D (aq m0 c).det
 lead:dR (D+1) wr v (aq m0 c).lead
 same:∀ b,dA g0 tags b↔dA g0 pU b
 grown:aH (dA g0 pU) w0 wr
 size:D<wr.heap.size
theorem nJ.mid {w0 wr:World} {g0 D:Nat} {pU:List (Nat×Nat)} {m0:List (List Rat)} {c:Nat} {v:Value} {tags:List (Nat×Nat)} (h:nJ w0 wr g0 D pU m0 c v tags):cN w0 wr g0 D pU (aq m0 c).m (aq m0 c).det v (aq m0 c).lead tags :=
 ⟨h.mat,h.box,h.lead,h.same,h.grown,h.size⟩
theorem cN.redOf {w0 wr:World} {g0 D:Nat} {pU:List (Nat×Nat)} {m0 m1:List (List Rat)} {d1:Rat} {c:Nat} {v:Value} {ld:List Nat} {tags:List (Nat×Nat)} (h:cN w0 wr g0 D pU m1 d1 v ld tags) (e:aq m0 c=⟨m1,ld,d1⟩):nJ w0 wr g0 D pU m0 c v tags :=
 ⟨by rw [e];exact h.mat,by rw [e];exact h.box,by rw [e];exact h.lead,h.same,h.grown,h.size⟩
theorem dR.low {B B':Nat} {w:World} {v:Value} {l:List Nat} (h:dR B w v l) (hb:B'<=B):dR B' w v l:=by
 refine ⟨h.1,?_⟩;rcases h.2 with h' | ⟨g,cap,cur,rfl,hg,rest⟩
 ·exact .inl h'
 ·exact .inr ⟨g,cap,cur,rfl,ow hb hg,rest⟩
theorem Z1u {c:Nat} {m:List (List Rat)} {ld:List Nat} {d:Rat} (h:fR m c (m.length-ld.length) ld.length=m.length):cF c ⟨m,ld,d⟩=⟨m,ld,0⟩:=by
 unfold cF;exact if_pos h
theorem Z1v {c a:Nat} {m m1:List (List Rat)} {ld:List Nat} {d d1 f:Rat} {r:List Rat} (h:fR m c (m.length-ld.length) ld.length=a) (ha:a≠m.length) (hm:m1=if a=ld.length then m else b8 m ld.length a) (hd:d1=if a=ld.length then d else -d) (hr:r=cE m1 ld.length) (hf:f=aJ m1 ld.length c) :
  cF c ⟨m,ld,d⟩=⟨di (m1.set ld.length (dW r f)) (dW r f) c ld.length (m1.set ld.length (dW r f)).length,ld++[c],d1*f⟩:=by
 subst h hf hr hm hd;unfold cF;exact if_neg ha
theorem Z2h {m:List (List Rat)} {k a c:Nat} (hk:k<m.length) (ha:a<m.length):aJ (if a=k then m else b8 m k a) k c=aJ m a c:=by
 by_cases e:a=k;·rw [if_pos e,e]
 ·rw [if_neg e];unfold aJ;rw [lr (m:=b8 m k a) (i:=k) (r:=cE m a)];rw [iw (iI hk) (iI ha),if_neg (fun x=>e x.symm),if_pos rfl]
theorem X9_ {P:Program} {fn:Func} {p s:Tmp} {ty:TypeId} (h:fn.results=#[.tmp s,.cell p ty]) (tmps:Array Value) (w:World) (g:Nat) (t:TypeId) (cs:Array Value) (fr:Nat×Nat) (d:TypeDesc) (v:Value)
  (hp:tmps.getD p undef=.pointer (some ⟨g,0,none⟩)) (hs:tmps.getD s undef=v) (hg:w.heap[g]?=some (.cells cs t fr))
  (hu:P.underlying ty=some d) (hd:(match d with | .struct _ | .array _ _=>true | _=>false)=true) (hi:(P.info? ty).map (·.size)=some cs.size) :
  (results fn tmps).run P w=.ok (.tuple #[v,.agg cs]) w:=by
 have sD:tmps[p]?.getD undef=.pointer (some ⟨g,0,none⟩):=by simpa using hp
 have sL:tmps[s]?.getD undef=v:=by simpa using hs
 simp [results,h,sD,sL,asAddr,run_loadVar_row w g t ty cs fr d hg hu hd hi]
theorem K6_ {α:Type} {l:List α} {i:Nat} {a:α} (h:l[i]?=some a):l.set i a=l:=by
 apply List.ext_getElem?;intro j;rw [pH];by_cases e:i=j
 ·subst e;rw [if_pos rfl,if_pos (od.1 h).1,h]
 ·rw [if_neg e]
theorem e8_ {α:Type} {l:List α} {i:Nat} {a b:α} (h:l[i]?=some a):(l.set i b)[i]?=some b:=by
 rw [pH,if_pos rfl,if_pos (od.1 h).1]
theorem cN.setEl {w0 wr:World} {g0 D:Nat} {pU:List (Nat×Nat)} {m:List (List Rat)} {d:Rat} {v:Value} {ld:List Nat} {tags:List (Nat×Nat)} (h:cN w0 wr g0 D pU m d v ld tags) (hb:∀ b,dA g0 tags b->b<D)
  {i j:Nat} {t:Nat×Nat} {r:List Rat} (ht:tags[i]?=some t) (hr:m[i]?=some r) (hj:j<r.length) (q:Rat) :
  cN w0 ((wr.setCell ⟨t.1,j*2,none⟩ (.string (aB q.num))).setCell ⟨t.1,j*2+1,none⟩ (.string (aE q.den))) g0 D pU (m.set i (r.set j q)) d v ld tags /\
   ∀ F x,dD wr F x->D<=F->dD ((wr.setCell ⟨t.1,j*2,none⟩ (.string (aB q.num))).setCell ⟨t.1,j*2+1,none⟩ (.string (aE q.den))) F x:=by
 have hgr:aH (·=t.1) wr ((wr.setCell ⟨t.1,j*2,none⟩ (.string (aB q.num))).setCell ⟨t.1,j*2+1,none⟩ (.string (aE q.den))):=((aH.refl (·=t.1) wr).store (S:=(·=t.1)) rfl _ _).store (S:=(·=t.1)) rfl _ _;obtain ⟨t',vj,-,-,-,hR,hne,hbq⟩:=h.mat.get hr;obtain rfl:t'=t:=o5 (vj.symm.trans ht);have hlt:=hb _ hbq
 exact ⟨⟨h.mat.setRow ht hr (by rw [List.length_set]) hgr (hR.set j hj q),h.box.grown hgr (fun e=>by omega),h.lead.grown hgr (fun b e=>by omega),h.same,h.grown.trans (hgr.weak fun b _ e=>by rw [e];exact (h.same _).1 hbq),by rw [g_,g_];exact h.size⟩,
  fun F x hF hDF=>hF.grown hgr (fun e=>by omega)⟩
theorem cN.push {w0 wr w':World} {g0 D:Nat} {pU:List (Nat×Nat)} {m:List (List Rat)} {d:Rat} {v v':Value} {ld ld':List Nat} {tags:List (Nat×Nat)} (h:cN w0 wr g0 D pU m d v ld tags) (hb:∀ b,dA g0 tags b->b<D) (hD:w0.heap.size<=D)
  (hB:Below (D+1) wr w') (hv:dR (D+1) w' v' ld'):cN w0 w' g0 D pU m d v' ld' tags:=by
 have hgr:aH (fun b=>D+1<=b) wr w':=⟨hB.os,hB.tape,hB.output,hB.size,fun k hk hn=>hB.block k (by omega)⟩;exact ⟨h.mat.grown hgr (fun b ql e=>by have:=hb b ql;omega),h.box.grown hgr (fun e=>by omega),hv,h.same,I8_ h.grown hgr (fun b e=>.inl (by omega)),ov h.size hB.size⟩
theorem Z1k (m0:List (List Rat)) (g0 Ax n C:Nat) (pU:List (Nat×Nat)) (wb w:World) (hM:c8 w g0 pU m0) (hC:b_ C m0) (hn:n<=C) (EB:C<=1000) (hl:m0.length<=1000) (qY:m0.length<=Ax) (qD:Ax<=9223372036854775807)
  (hok:∀ c,c<n->gK 2500 (aq m0 c).m/\RS 9000 (aq m0 c).det) (yd:aA wb w) (ht:ag wb) (sO:∀ b,dA g0 pU b->wb.heap.size<=b) :
  Calls prog 203 #[.slice (some ⟨g0,0,none⟩) m0.length Ax,.int .i64 n] w fun e w'=>∃ v tags,e=.returned (.tuple #[v,bR (aq m0 n).det])/\dR w.heap.size w' v (aq m0 n).lead/\c8 w' g0 tags (aq m0 n).m/\(∀ b,dA g0 tags b↔dA g0 pU b)/\aH (dA g0 pU) w w':=by
 have HM:=oZ hM;have HC:=oZ hC;have HOK:=oZ hok;have HWB:=oZ yd;have HT:=oZ ht;have HBL:=oZ sO;have HSH:=oZ (oJ hC);obtain ⟨L,hL⟩:=pL m0.length;rw [<- hL] at hl qY HSH |-;have HL:=oZ hL;obtain ⟨W1,pc,hE1,hs1,hb1⟩:=dO w (.string ⟨#[]⟩) (.string ⟨#[]⟩) 246;have HE1:=oZ hE1;have HB1:Hid (∀ W,aA W1 W->af w.heap.size W):=fun W hW=>af.ext ⟨_,_,hb1⟩ hW;have HS1:=oZ hs1;have HBW:Hid (∀ b,dA g0 pU b->b<w.heap.size):=fun b hb=>hM.blt hb;obtain ⟨r0,r1,rf⟩:=dI hb1;clear hM hC hok yd ht sO hL hE1 hs1 hb1 rf
 go_enter func203,ntmps203
 go_wp2_with fail;refine (Z0n _).mono ?_;rintro e w2 ⟨rfl,hE2⟩;have HE2:=oZ hE2;obtain ⟨q0,q1,t0,t1,f0,f1⟩:=(HB1 _ hE2).open;have hbx:=(HB1 _ hE2);rw [K1_];have HR0:Hid (nJ w ((w2.setCell ⟨w.heap.size,0,none⟩ (.string ⟨#[49]⟩)).setCell ⟨w.heap.size,1,none⟩ (.string ⟨#[49]⟩)) g0 w.heap.size pU m0 0 (.slice none 0 0) pU):=by
  have hgr:aH (·=w.heap.size) w2 ((w2.setCell ⟨w.heap.size,0,none⟩ (.string ⟨#[49]⟩)).setCell ⟨w.heap.size,1,none⟩ (.string ⟨#[49]⟩)):=((aH.refl (·=w.heap.size) w2).store (S:=(·=w.heap.size)) rfl _ _).store (S:=(·=w.heap.size)) rfl _ _;refine ⟨(HM.ext (HE1.trans hE2)).grown hgr (fun b hb e=>by have:=HBW b hb;omega),?_,dR.nil _ _,fun b=>Iff.rfl,?_,?_⟩
  ·have:=hbx.res (x:=.string ⟨#[49]⟩) (y:=.string ⟨#[49]⟩);unfold dD;rw [this];show some (Obj.cells #[.string ⟨#[49]⟩,.string ⟨#[49]⟩] 246 (0,0))=some (Obj.cells #[.string (aB 1),.string (aE 1)] 246 (0,0));rw [n7,ik]
  ·exact I8_ ((HE1.trans hE2).grownS _) hgr (fun b hb=>.inl (by omega))
  ·rw [g_,g_];have:=hE2.size;have:=HS1.out;omega
 clear hE2 hbx r0 r1;go_wp2_with fail;clear q0 q1 t0 t1 f0 f1
 go_loopw [16,4] (fun t v wr=>∃ (c:Nat) (tags:List (Nat×Nat)),c<=n/\t=.int .i64 c/\Hid (nJ w wr g0 w.heap.size pU m0 c v tags)) (fun t _ _=>n-(intOf t).toNat)
 case atStart=>exact ⟨0,pU,by omega,rfl,HR0⟩
 case round =>
  obtain ⟨c,tags,hc,rfl,HR⟩:=hrel;obtain ⟨wo,rfl⟩:∃ wo:World,wo=wr:=⟨_,rfl⟩;clear HR0 HE2;have HP:=oZ (HR.grown);have Ms:Hid (aA wb wo):=Below.trans HWB (HR.grown.belowE (B:=wb.heap.size) HBL HWB.size);obtain ⟨av,cv,hv,hv1,hv2⟩:=HR.lead.form;obtain ⟨k,hk⟩:=pL ((aq m0 c).lead.length);rw [<- hk] at hv hv1;have HK:=oZ hk;have LG:k<=L:=by rw [hk];exact (HSH c).2.2
  subst hv;clear hk;by_cases hlt:c<n
  ·obtain ⟨hA,hD⟩:=HOK c hlt;have HA:=oZ hA;have HD:=oZ hD;obtain ⟨m,hm⟩:=pL ((aq m0 c).m);obtain ⟨d,hd⟩:=pL ((aq m0 c).det);obtain ⟨ld,qy⟩:=pL ((aq m0 c).lead);have HMM:=HR.mat;have HBB:=HR.box;have HLD:=HR.lead;rw [<- hm] at HMM HA;rw [<- hd] at HBB HD;rw [<- qy] at HLD HK;have HMM:=oZ HMM;have HBB:=oZ HBB;have HLD:=oZ HLD;have tE:Hid (b_ C m/\m.length=L):=(by unfold Hid;rw [hm];exact ⟨(HSH c).1,(HSH c).2.1⟩);have HST:Hid (aq m0 (c+1)=cF c ⟨m,ld,d⟩):=(by unfold Hid;rw [hm,hd,qy];rfl);have HSAME:=oZ HR.same;have HDS:=oZ HR.size;have zu:Hid (∀ b,dA g0 tags b->b<w.heap.size):=fun b hb=>HBW b ((HR.same b).1 hb);clear hm hd qy hA hD HR;go_wp2_with fail
   go_loopw [7] (fun t wr=>∃ a:Nat,t=.int .i64 a/\k<=a/\a<=L/\Hid (∀ j,k<=j->j<a->aJ m j c=0)/\Hid (aA wo wr)) (fun t _=>L-(intOf t).toNat)
   case atStart=>exact ⟨k,rfl,by omega,LG,(fun j h1 h2=>by omega),aA.refl _⟩
   case round =>
    obtain ⟨a,rfl,FR,AY,HZ,HE⟩:=hrel;obtain ⟨wi,rfl⟩:∃ wi:World,wi=wr:=⟨_,rfl⟩;by_cases qV:a<L
    ·have hr:m[a]?=some (cE m a):=iI (by have:=tE.2;omega);obtain ⟨t,ht,c1,h1,h2,hrow,hne,hbq⟩:=HMM.get hr;have hrl:=tE.1.get hr;have hcl:c<(cE m a).length:=(by omega);have hx:(cE m a)[c]?=some (aJ m a c):=(by rw [ns (oc hcl)];exact oc hcl);have g1:=HE.cell c1;have g2:=HE.cell (hrow.num c _ hx);have g3:=HE.cell (hrow.den c _ hx);have HRL:=oZ hrl;rw [hrl] at g1 h1;have Lh:c<C:=(by omega);have HSG:Hid (∀ W,pI 275 #[.agg #[.string (aB (aJ m a c).num),.string (aE (aJ m a c).den)]] W (.int .i64 (aJ m a c).num.sign)):=fun W=>X5_ (aJ m a c) W;have hsz:=X6_ (aJ m a c);clear hr ht c1 hrow hne hbq hrl hcl hx;by_cases qB:aJ m a c=0
     ·have HZ2:Hid (∀ j,k<=j->j<a+1->aJ m j c=0):=fun j h1 h2=>by
       by_cases e:j=a;·rw [e];exact qB
       ·exact HZ j h1 (by omega)
      rw [pE qB] at hsz;obtain ⟨sg,rQ⟩:=pL ((aJ m a c).num.sign);rw [<- rQ] at HSG hsz;clear qB rQ;go_wp2_with fail;refine q_ (HSG _) (aA.trans HE) ?_;intro w3 HE3;clear HSG g1 g2 g3;go_wp2_with fail;go_roundw
      case rel=>exact ⟨a+1,by go_num,by omega,by omega,HZ2,HE3⟩
      case measure=>simp [intOf];omega
     ·rw [pD qB] at hsz;obtain ⟨sg,rQ⟩:=pL ((aJ m a c).num.sign);rw [<- rQ] at HSG hsz;have HX0:=oZ qB;clear qB rQ;have Cz:¬ a=L:=(by omega);go_wp2_with fail;refine q_ (HSG _) (aA.trans HE) ?_;intro w3 HE3;clear HSG g1 g2 g3 HE;have HMID:Hid (cN w w3 g0 w.heap.size pU m d (.slice av k cv) ld tags) :=
       ⟨HMM.ext HE3,HBB.ext HE3,HLD.ext HE3,HSAME,HP.trans (HE3.grownS _),ov HDS HE3.size⟩
      have Ll:((a:Int) == (L:Int))=false:=(by rw [beq_eq_false_iff_ne];omega);obtain ⟨bak,yz⟩:=pK (((a:Int) != (k:Int)))
      have A8:Hid (a≠k->∀ W,aA w3 W->∃ s t,tags[k]?=some s/\tags[a]?=some t/\W.cell? ⟨g0,k,none⟩=some (.slice (some ⟨s.1,0,none⟩) C s.2)/\W.cell? ⟨g0,a,none⟩=some (.slice (some ⟨t.1,0,none⟩) C t.2)/\W.frozen? ⟨g0,k,none⟩=false/\W.frozen? ⟨g0,a,none⟩=false/\C<=s.2/\C<=t.2/\s.2<=9223372036854775807/\t.2<=9223372036854775807 /\
        cN w ((W.setCell ⟨g0,k,none⟩ (.slice (some ⟨t.1,0,none⟩) C t.2)).setCell ⟨g0,a,none⟩ (.slice (some ⟨s.1,0,none⟩) C s.2)) g0 w.heap.size pU (b8 m k a) d (.slice av k cv) ld (b8 tags k a)/\(∀ b,dA g0 (b8 tags k a) b->b<w.heap.size)):=by
       intro hne W hW;have hmid:=HMID.ext hW;have hk2:m[k]?=some (cE m k):=iI (by have:=tE.2;omega);have ha2:m[a]?=some (cE m a):=iI (by have:=tE.2;omega);obtain ⟨s,hs,c1,h1,h2,-⟩:=hmid.mat.get hk2;obtain ⟨t,ht,c3,h3,h4,-⟩:=hmid.mat.get ha2;have e1:=tE.1.get hk2;have e2:=tE.1.get ha2;have hsw:=hmid.mat.swap hs ht hk2 ha2;rw [e1] at c1 h1 hsw;rw [e2] at c3 h3 hsw;have hgr:aH (·=g0) W ((W.setCell ⟨g0,k,none⟩ (.slice (some ⟨t.1,0,none⟩) C t.2)).setCell ⟨g0,a,none⟩ (.slice (some ⟨s.1,0,none⟩) C s.2)):=((aH.refl (·=g0) W).store (S:=(·=g0)) rfl _ _).store (S:=(·=g0)) rfl _ _;have BY:dA g0 pU g0:=List.mem_cons_self ..;have hgl:=HBW g0 BY;refine ⟨s,t,hs,ht,c1,c3,hmid.mat.free k,hmid.mat.free a,h1,h3,h2,h4,⟨hsw,hmid.box.grown hgr (fun e=>by omega),hmid.lead.grown hgr (fun b e=>by omega),fun b=>(y7_ hs ht).trans (hmid.same b),hmid.grown.trans (hgr.weak fun b _ e=>by rw [e];exact BY),by rw [g_,g_];exact hmid.size⟩,fun b hb=>HBW b ((hmid.same b).1 ((y7_ hs ht).1 hb))⟩
      have HBK:=oZ yz
      go_upto_if 47 with (fail)
      go_cut [] from 48 to 63 (fun wx=>Hid (∃ pW,cN w wx g0 w.heap.size pU (if a=k then m else b8 m k a) (if a=k then d else -d) (.slice av k cv) ld pW))
      case first =>
       by_cases wZ:a=k
       ·have hb:bak=false:=(by rw [<- HBK.out,wZ];simp);have HF:Hid (∃ pW,cN w w3 g0 w.heap.size pU (if a=k then m else b8 m k a) (if a=k then d else -d) (.slice av k cv) ld pW):=by
         rw [if_pos wZ,if_pos wZ];exact ⟨tags,HMID⟩
        clear HBK yz wZ A8;subst hb;go_wp2_with fail;go_meet;exact HF
       ·have hb:bak=true:=(by rw [<- HBK.out];simp;omega);have LF:¬ k=a:=fun e=>wZ e.symm;obtain ⟨s,t,hs,ht,c1,c3,f1,f3,h1,h3,h2,h4,hmid,AV⟩:=A8 wZ w3 (aA.refl _);have HM3:=oZ (hmid.ext (aA.drew _));have HBK2:=oZ AV;obtain ⟨b0,b1,b2,b3⟩:=HM3.box.cells;have DZ:Hid (∀ W,pI 277 #[.agg #[.string (aB d.num),.string (aE d.den)]] W (.agg #[.string (aB (-d).num),.string (aE (-d).den)])):=fun W=>z9_ d W (HD.mono (by omega));clear hmid AV;have kL:k<L:=by omega
        clear HBK yz;subst hb;go_wp2_with fail
        go_region
        all_goals
         go_wp2_with fail;refine (DZ _).mono ?_;rintro e w5 ⟨rfl,pV⟩;have HM5:=oZ (HM3.ext pV);obtain ⟨d0,d1,d2,d3⟩:=HM5.box.cells;have HF:=oZ (HM5.setBox HBK2 (oz _) (-d));clear pV DZ b0 b1 b2 b3;go_wp2_with fail;go_meet;rw [if_neg wZ,if_neg wZ];exact ⟨_,HF⟩
      case rest =>
       have HHC:=oZ hcut;obtain ⟨pW,xR⟩:=HHC.out.out;clear hcut HHC HBK HMID A8 HE3;obtain ⟨m1,qp⟩:∃ m1,m1=if a=k then m else b8 m k a:=⟨_,rfl⟩
       obtain ⟨d1,rT⟩:∃ d1,d1=if a=k then d else -d:=⟨_,rfl⟩
       rw [<- qp,<- rT] at xR;have HM1:=oZ xR;have wP:Hid (b_ C m1/\m1.length=L):=by
        unfold Hid;rw [qp];split;·exact tE
        ·exact ⟨tE.1.swp _ _,by rw [nB];exact tE.2⟩
       have HA1:Hid (gK 2500 m1):=by
        unfold Hid;rw [qp];split;·exact HA
        ·exact HA.swp _ _
       have HD1:Hid (RS 9001 d1):=by
        unfold Hid;rw [rT];split;·exact HD.mono (by omega)
        ·exact Z75 HD
       have Iv:k<m.length:=(by rw [tE.out.2];omega);have JH:a<m.length:=(by rw [tE.out.2];omega);obtain ⟨f,hf⟩:=pL (aJ m1 k c);obtain ⟨r,hr⟩:=pL (cE m1 k);have Hv:Hid (f≠0):=(by unfold Hid;rw [hf,qp,Z2h Iv JH];exact HX0);have HRK:Hid (m1[k]?=some r/\r.length=C/\r[c]?=some f):=by
        have h1:m1[k]?=some r:=(by rw [hr];exact iI (by rw [wP.out.2];omega));have h2:=wP.1.get h1;refine ⟨h1,h2,?_⟩;have hcl:c<r.length:=(by omega);rw [hf,ns (x:=r[c]) (by rw [<- hr];exact oc hcl)];exact oc hcl
       have HNX:Hid (aq m0 (c+1)=⟨di (m1.set k (dW r f)) (dW r f) c k L,ld++[c],d1*f⟩):=by
        unfold Hid;have hkl:=HK.out;rw [HST.out,Z1v (a:=a) (m1:=m1) (d1:=d1) (r:=r) (f:=f) ?_ ?_ ?_ ?_ ?_ ?_,List.length_set,<- hkl,wP.out.2]
        ·rw [tE.out.2,<- hkl];exact v1_ m c _ k a FR (by omega) HZ (fun _=>HX0)
        ·rw [tE.out.2];exact Cz
        ·rw [<- hkl];exact qp
        ·rw [<- hkl];exact rT
        ·rw [<- hkl];exact hr
        ·rw [<- hkl];exact hf
       have LA:k<L:=(by omega);have Lh:c<C:=(by omega);clear xR qp rT hf hr Iv JH HMM HBB HLD HA HD tE HST HX0 HZ hsz HDS HOK FR qV AY Cz Ll yz;have KL:Hid (aA wb wc):=Below.trans HWB (HM1.grown.belowE (B:=wb.heap.size) HBL HWB.size);have zG:Hid (∀ b,dA g0 pW b->b<w.heap.size):=fun b hb=>HBW b ((HM1.same b).1 hb);obtain ⟨dd,wF⟩:=pL (d1*f);rw [<- wF] at HNX;have sY:Hid (∀ W,aA wc W->pI 278 #[.agg #[.string (aB d1.num),.string (aE d1.den)],.agg #[.string (aB f.num),.string (aE f.den)]] W (.agg #[.string (aB dd.num),.string (aE dd.den)])):=fun W hW=>by
        rw [wF];exact z8_ d1 f W (HD1.mono (by omega)) ((HA1.get HRK.1 HRK.2.2).mono (by omega)) (HT.ext (KL.trans hW))
       obtain ⟨t,ht,c1,h1,h2,hrow,hne,hbq⟩:=HM1.mat.get HRK.1;rw [HRK.out.2.1] at c1 h1;have g2:=hrow.num c f HRK.2.2;have g3:=hrow.den c f HRK.2.2;have x8:Hid (pW[k]?=some t):=ht;obtain ⟨W4,y6,hE4,Es,hb4⟩:=dO wc (.string (aB f.num)) (.string (aE f.den)) 246;have HE4:=oZ hE4;have hDF:=HM1.size;have HB4:Hid (∀ W,aA W4 W->dD W wc.heap.size f):=fun W hW=>aF hb4 hW;obtain ⟨e0,e1,e2,e3⟩:=(HB4 W4 (aA.refl _)).cells;obtain ⟨b0,b1,b2,b3⟩:=(HM1.ext hE4).box.cells;clear ht hrow hne hbq hE4 Es hb4 wF
       go_upto_region 15 with (fail)
       obtain ⟨wq,rfl⟩:∃ wq:World,wq=wc:=⟨_,rfl⟩
       go_cut [] from 71 to 73 (fun wx=>Hid (cN w wx g0 w.heap.size pU m1 dd (.slice av k cv) ld pW)/\Hid (dD wx wq.heap.size f))
       case first =>
        clear c1 g2 g3;go_wp2_with fail;refine (sY _ HE4).mono ?_;rintro e w5 ⟨rfl,pV⟩;have HM5:=oZ (HM1.ext (HE4.trans pV));have HBF:=HB4 _ pV;have HF:=oZ (HM5.setBox zG (oz _) dd);have HG:=oZ (HBF.grown (S:=(·=w.heap.size)) (((aH.refl (·=w.heap.size) w5).store (S:=(·=w.heap.size)) rfl 0 (.string (aB dd.num))).store (S:=(·=w.heap.size)) rfl 1 (.string (aE dd.den))) (by omega));clear b0 b1 b2 b3 e0 e1 e2 e3 HBF pV;obtain ⟨b0,b1,b2,b3⟩:=HM5.box.cells;go_wp2_with fail;go_meet;exact ⟨HF,HG⟩
       case rest =>
       obtain ⟨HM6,Dj⟩:=hcut;have Gm:w.heap.size<=wq.heap.size:=(by omega);clear HM1 HE4 HB4 sY c1 g2 g3 b0 b1 b2 b3 e0 e1 e2 e3 y6 KL;obtain ⟨t',vj,c1,-,-,-⟩:=HM6.mat.get HRK.1;obtain rfl:t=t':=o5 (x8.symm.trans vj);rw [HRK.out.2.1] at c1;clear vj;go_wp2_with fail;clear c1
       go_loopw [79] (fun tv wr=>∃ j:Nat,tv=.int .i64 j/\j<=C/\Hid (cN w wr g0 w.heap.size pU (m1.set k (eK (dW r f) r j)) dd (.slice av k cv) ld pW)/\Hid (dD wr wq.heap.size f)) (fun tv _=>C-(intOf tv).toNat)
       case atStart=>exact ⟨0,rfl,by omega,by unfold Hid;rw [z0_,K6_ HRK.out.1];exact HM6,Dj⟩
       case round =>
        obtain ⟨j,rfl,Na,rV,Bt⟩:=hrel;obtain ⟨wj,rfl⟩:∃ wj:World,wj=wr:=⟨_,rfl⟩;clear HM6 Dj;have Df:Hid ((dW r f).length=r.length):=V4_ r f;by_cases hj:j<C
        ·have hrl:=HRK.2.1;obtain ⟨x,hx⟩:∃ x,r[j]?=some x:=⟨_,oc (by omega)⟩;have hP:(m1.set k (eK (dW r f) r j))[k]?=some (eK (dW r f) r j):=e8_ HRK.1;have Ak:(eK (dW r f) r j).length=C:=(by rw [m9_ _ _ _ Df.out];exact HRK.2.1);have hPx:=m8_ Df (oz j) hx;obtain ⟨t',vj,c1,-,-,hrow,-⟩:=rV.mat.get hP;obtain rfl:t=t':=o5 (x8.symm.trans vj);rw [Ak] at c1;have g2:=hrow.num j x hPx;have g3:=hrow.den j x hPx;obtain ⟨e0,e1,-,-⟩:=Bt.cells;obtain ⟨q,hq⟩:=pL (x / f);have EI:Hid (aA wb wj):=Below.trans HWB (rV.grown.belowE (B:=wb.heap.size) HBL HWB.size);have Hy:Hid (∀ W,aA wj W->pI 279 #[.agg #[.string (aB x.num),.string (aE x.den)],.agg #[.string (aB f.num),.string (aE f.den)]] W (.tuple #[.agg #[.string (aB q.num),.string (aE q.den)],.int .i64 0])):=fun W hW=>by
          rw [hq];exact Z1f x f W ((HA1.get HRK.1 hx).mono (by omega)) ((HA1.get HRK.1 HRK.2.2).mono (by omega)) Hv (HT.ext (EI.trans hW))
         have yJ:Hid (∀ W,aA wj W->cN w ((W.setCell ⟨t.1,j*2,none⟩ (.string (aB q.num))).setCell ⟨t.1,j*2+1,none⟩ (.string (aE q.den))) g0 w.heap.size pU (m1.set k (eK (dW r f) r (j+1))) dd (.slice av k cv) ld pW/\dD ((W.setCell ⟨t.1,j*2,none⟩ (.string (aB q.num))).setCell ⟨t.1,j*2+1,none⟩ (.string (aE q.den))) wq.heap.size f):=fun W hW=>by
          have hn:=(rV.ext hW).setEl zG x8 hP (j:=j) (by rw [Ak];exact hj) q;rw [List.set_set,l0_ Df.out (by rw [hq];exact Z0I hx)] at hn;exact ⟨hn.1,hn.2 _ _ (Bt.ext hW) Gm⟩
         have HFR:Hid (∀ W,aA wj W->W.frozen? ⟨t.1,j*2,none⟩=false/\W.frozen? ⟨t.1,j*2+1,none⟩=false):=fun W hW=>⟨(hrow.ext hW).free _,(hrow.ext hW).free _⟩
         clear vj hP Ak hPx hrow hx hq hrl;go_wp2_with fail;refine iq (fun w'=>w'.cell? ⟨g0,k,none⟩=some (.slice (some ⟨t.1,0,none⟩) C t.2)/\w'.cell? ⟨t.1,j*2,none⟩=some (.string (aB x.num))/\w'.cell? ⟨t.1,j*2+1,none⟩=some (.string (aE x.den))/\w'.cell? ⟨wq.heap.size,0,none⟩=some (.string (aB f.num))/\w'.cell? ⟨wq.heap.size,1,none⟩=some (.string (aE f.den))/\Hid (aA wj w')) 18 (by kernel_rfl) ⟨(aA.drew wj).cell c1,(aA.drew wj).cell g2,(aA.drew wj).cell g3,(aA.drew wj).cell e0,(aA.drew wj).cell e1,aA.drew wj⟩ (fun pO=>?_);refine rA [0,1,2,3,4,5,6,7,8,9,10,11,12] ?_
         iterate 13 ((first|(refine rL (v:=?_) (by rfl) (Or.inl ⟨by rfl,?_⟩) ?_;rotate_left;·((intro w' qM);(try dsimp only at qM);(try go_simp);(try with_reducible rfl)))|(refine rW (v:=?_) (by rfl) (Or.inl ⟨by rfl,?_⟩) ?_;rotate_left;·((intro w');(try go_simp);(try with_reducible rfl))));(try simp only [Act.put,aQ,aR,aS]))
         refine rE ?_;refine dH 13 (by kernel_rfl) rfl (fun K hK=>?_);go_simp
         (go_at_call 279;refine (Hy _ pO.2.2.2.2.2).mono ?_)
         rintro e w5 ⟨rfl,pV⟩;go_wp2_with fail;refine hK _ _ (⟨pV.cell pO.1,pV.cell pO.2.1,pV.cell pO.2.2.1,pV.cell pO.2.2.2.1,pV.cell pO.2.2.2.2.1,aA.trans pO.2.2.2.2.2 pV⟩) (fun pO=>?_);clear hK K
         (try simp only [Act.put,aQ,aR,aS])
         refine rA [14,15,16,17] ?_
         iterate 4 ((refine rW (v:=?_) (by rfl) (Or.inl ⟨by rfl,?_⟩) ?_;rotate_left;·((intro w');(try go_simp);(try with_reducible rfl)));(try simp only [Act.put,aQ,aR,aS]))
         refine rE ?_;have z1:=pO.2.1;have z2:=pO.2.2.1;have z3:=HFR _ pO.2.2.2.2.2;obtain ⟨z4,z5⟩:=z3;have HM7:=yJ _ pO.2.2.2.2.2;refine fL 18 (by kernel_rfl) (by kernel_rfl) (by kernel_rfl) rfl (fun K hK=>?_);go_simp;refine hK _ _ ?_;clear hK K
         (try simp only [Act.put,aQ,aR,aS])
         go_wp2_with fail;go_roundw
         case rel=>exact ⟨j+1,by go_num,by omega,HM7.1,HM7.2⟩
         case measure=>simp [intOf];omega
        ·have Dc:Hid (cN w wj g0 w.heap.size pU (m1.set k (dW r f)) dd (.slice av k cv) ld pW):=by
          have h8:=rV.out;rw [m7_ _ _ _ Df.out (by rw [HRK.out.2.1];omega)] at h8;exact h8
         obtain ⟨p,hp⟩:=pL (dW r f);have Mv:Hid (∀ (j:Nat) y,p[j]?=some y->RS 5002 y):=by
          intro j y hy;rw [hp] at hy;unfold dW at hy;rw [oh] at hy;obtain ⟨x,hx,rfl⟩:=Option.map_eq_some_iff.1 hy;exact (Z5w (HA1.get HRK.1 hx) (HA1.get HRK.1 HRK.2.2) Hv).mono (by omega)
         have HPL:Hid (p.length=C):=(by unfold Hid;rw [hp,V4_];exact HRK.2.1);rw [<- hp] at Dc HNX;obtain ⟨m2,rI⟩:=pL (m1.set k p);rw [<- rI] at Dc HNX;have BD:Hid (b_ C m2/\m2.length=L):=(by unfold Hid;rw [rI];exact ⟨wP.1.set _ HPL,by rw [List.length_set];exact wP.2⟩);have KB:Hid (m2[k]?=some p):=(by unfold Hid;rw [rI];exact e8_ HRK.1);have ya:Hid (∀ (i j:Nat) ri x,i≠k->m2[i]?=some ri->ri[j]?=some x->RS 2500 x):=by
          intro i j ri x tN r6 hx;rw [rI,pH,if_neg (fun e=>tN e.symm)] at r6;exact HA1.get r6 hx
         obtain ⟨tk,zK,c2,hk1,hk2,-⟩:=Dc.mat.get KB;obtain rfl:t=tk:=o5 (x8.symm.trans zK);clear zK c2 hp rI rV Bt Df wP HA1 HD1 Hv HRK;go_wp2_with fail
         go_loopw [103] (fun tv wr=>∃ i:Nat,tv=.int .i64 i/\i<=L/\Hid (cN w wr g0 w.heap.size pU (di m2 p c k i) dd (.slice av k cv) ld pW)) (fun tv _=>L-(intOf tv).toNat)
         case atStart=>exact ⟨0,rfl,by omega,Dc⟩
         case round =>
          obtain ⟨i,rfl,Iz,HMI⟩:=hrel;obtain ⟨wi,rfl⟩:∃ wi:World,wi=wr:=⟨_,rfl⟩;clear Dc;by_cases hi:i<L
          ·obtain ⟨M,hM⟩:=pL (di m2 p c k i);obtain ⟨ri,r6⟩:=pL (cE M i);have zh:M.length=L:=(by rw [hM,kT];exact BD.2);have Bd:M[i]?=some ri:=(by rw [r6];exact iI (by omega));have Ia:b_ C M:=(by rw [hM];exact BD.1.elim HPL c k i (by rw [BD.out.2];omega));have hril:=Ia.get Bd;have KF:Hid (m2[i]?=some ri):=(by unfold Hid;rw [<- V5_ m2 p c k i i (oz _),<- hM];exact Bd);have Mh:Hid (M[k]?=some p):=(by unfold Hid;rw [hM,O9_];exact KB);have yC:Hid (di m2 p c k (i+1)=M.set i (ib p c k i ri)):=(by unfold Hid;rw [r6,hM];rfl);obtain ⟨x,hx⟩:∃ x,ri[c]?=some x:=⟨_,oc (by omega)⟩;have HXG:Hid (ri.getD c 0=x):=(by unfold Hid;rw [oe,hx];rfl);rw [<- hM] at HMI;obtain ⟨ti,Ej,c1,AO,rD,hrow,hne,hbq⟩:=HMI.mat.get Bd;rw [hril] at c1 AO;have zp:Hid (pW[i]?=some ti):=Ej;have g2:=hrow.num c x hx;have g3:=hrow.den c x hx;have HRI:Hid (M[i]?=some ri/\ri.length=C/\ri[c]?=some x):=⟨Bd,hril,hx⟩;obtain ⟨W9,Bb,tO,Kq,JF⟩:=dO wi (.string (aB x.num)) (.string (aE x.den)) 246;have HE9:=oZ tO;have HB9:Hid (∀ W,aA W9 W->dD W wi.heap.size x):=fun W hW=>aF JF hW;have Gp:w.heap.size<=wi.heap.size:=by have:=HMI.size;omega
           obtain ⟨e0,e1,e2,e3⟩:=(HB9 W9 (aA.refl _)).cells;clear hM r6 zh Bd Ia hril hx Ej hrow hne hbq tO Kq JF;by_cases tN:i=k
           ·have hb:((i:Int) == (k:Int))=true:=(by rw [tN];exact beq_self_eq_true _);have yF:Hid (cN w W9 g0 w.heap.size pU (di m2 p c k (i+1)) dd (.slice av k cv) ld pW):=by
             unfold Hid;rw [yC.out];unfold ib;rw [if_pos (.inl tN),K6_ HRI.out.1];exact HMI.ext HE9
            clear tN;go_wp2_with fail;go_roundw
            case rel=>exact ⟨i+1,by go_num,by omega,yF⟩
            case measure=>simp [intOf];omega
           ·have hb:((i:Int) == (k:Int))=false:=(by rw [beq_eq_false_iff_ne];omega);have HIK:=oZ tN;have HSG:Hid (∀ W,pI 275 #[.agg #[.string (aB x.num),.string (aE x.den)]] W (.int .i64 x.num.sign)):=fun W=>X5_ x W;have hsz:=X6_ x;obtain ⟨M0,CF⟩:=pL x.num.sign;rw [<- CF] at HSG hsz;clear CF tN;by_cases qB:x=0
            ·rw [pE qB] at hsz;have HX0:=oZ qB;clear qB;go_wp2_with fail;refine (HSG _).mono ?_;rintro e w5 ⟨rfl,pV⟩;have yF:Hid (cN w w5 g0 w.heap.size pU (di m2 p c k (i+1)) dd (.slice av k cv) ld pW):=by
              unfold Hid;rw [yC.out];unfold ib;rw [if_pos (.inr (HXG.out.trans HX0.out)),K6_ HRI.out.1];exact HMI.ext (HE9.trans pV)
             clear pV HSG c1 g2 g3 e0 e1 e2 e3;go_wp2_with fail;go_roundw
             case rel=>exact ⟨i+1,by go_num,by omega,yF⟩
             case measure=>simp [intOf];omega
            ·rw [pD qB] at hsz;have HX0:=oZ qB;clear qB;go_wp2_with fail;refine (HSG _).mono ?_;rintro e w5 ⟨rfl,pV⟩;have HM9:=oZ (HMI.ext (HE9.trans pV));have HBX9:=oZ (HB9 _ pV);have A9:Hid (di m2 p c k (i+1)=M.set i (gI ri p x)):=by
              unfold Hid;rw [yC.out];unfold ib;rw [HXG.out,if_neg (fun h=>h.elim HIK.out HX0.out)]
             have c1':=(HE9.trans pV).cell c1;have HSL:Hid ((gI ri p x).length=ri.length):=y4_ _ _ _ (by rw [HPL.out,HRI.out.2.1]);clear pV HSG c1 g2 g3 e0 e1 e2 e3;go_wp2_with fail;clear c1'
             go_loopw [126] (fun tv wr=>∃ j:Nat,tv=.int .i64 j/\j<=C/\Hid (cN w wr g0 w.heap.size pU (M.set i (eK (gI ri p x) ri j)) dd (.slice av k cv) ld pW)/\Hid (dD wr wi.heap.size x)) (fun tv _=>C-(intOf tv).toNat)
             case atStart=>exact ⟨0,rfl,by omega,by unfold Hid;rw [z0_,K6_ HRI.out.1];exact HM9,HBX9⟩
             case round =>
              obtain ⟨j,rfl,LK,rV,Bt⟩:=hrel;obtain ⟨wk,rfl⟩:∃ wk:World,wk=wr:=⟨_,rfl⟩;clear HM9 HBX9;by_cases LM:j<C
              ·have hrl:=HRI.2.1;have hpl:=HPL.out;obtain ⟨u,hu⟩:∃ u,ri[j]?=some u:=⟨_,oc (by omega)⟩;obtain ⟨y,hy⟩:∃ y,p[j]?=some y:=⟨_,oc (by omega)⟩;have hP:(M.set i (eK (gI ri p x) ri j))[i]?=some (eK (gI ri p x) ri j):=e8_ HRI.1;have JV:(M.set i (eK (gI ri p x) ri j))[k]?=some p:=(by rw [pH,if_neg HIK.out];exact Mh);have Ak:(eK (gI ri p x) ri j).length=C:=(by rw [m9_ _ _ _ HSL.out];exact HRI.2.1);have hPu:=m8_ HSL (oz j) hu;obtain ⟨t',vj,c1,-,-,hrow,-⟩:=rV.mat.get hP;obtain rfl:ti=t':=o5 (zp.symm.trans vj);obtain ⟨t',CA,c2,-,-,xL,-⟩:=rV.mat.get JV;obtain rfl:t=t':=o5 (x8.symm.trans CA);rw [Ak] at c1;rw [hpl] at c2;have g2:=hrow.num j u hPu;have g3:=hrow.den j u hPu;have y2:=xL.num j y hy;have y3:=xL.den j y hy;obtain ⟨e0,e1,-,-⟩:=Bt.cells;obtain ⟨s1,hs1⟩:=pL (x*y);obtain ⟨q,hq⟩:=pL (u-s1);have EI:Hid (aA wb wk):=Below.trans HWB (rV.grown.belowE (B:=wb.heap.size) HBL HWB.size);have hxs:RS 2500 x:=ya i c ri x HIK KF HRI.2.2;have hys:RS 5002 y:=Mv j y hy;have yf:RS 2500 u:=ya i j ri u HIK KF hu;have Da:Hid (∀ W,aA wk W->pI 278 #[.agg #[.string (aB x.num),.string (aE x.den)],.agg #[.string (aB y.num),.string (aE y.den)]] W (.agg #[.string (aB s1.num),.string (aE s1.den)])):=fun W hW=>by
                rw [hs1];exact z8_ x y W (hxs.mono (by omega)) (hys.mono (by omega)) (HT.ext (EI.trans hW))
               have qE:Hid (∀ W,aA wk W->pI 280 #[.agg #[.string (aB u.num),.string (aE u.den)],.agg #[.string (aB s1.num),.string (aE s1.den)]] W (.agg #[.string (aB q.num),.string (aE q.den)])):=fun W hW=>by
                rw [hq];exact Z1g u s1 W (yf.mono (by omega)) (by rw [hs1];exact (Z5C hxs hys).mono (by omega)) (HT.ext (EI.trans hW))
               have yJ:Hid (∀ W,aA wk W->cN w ((W.setCell ⟨ti.1,j*2,none⟩ (.string (aB q.num))).setCell ⟨ti.1,j*2+1,none⟩ (.string (aE q.den))) g0 w.heap.size pU (M.set i (eK (gI ri p x) ri (j+1))) dd (.slice av k cv) ld pW/\dD ((W.setCell ⟨ti.1,j*2,none⟩ (.string (aB q.num))).setCell ⟨ti.1,j*2+1,none⟩ (.string (aE q.den))) wi.heap.size x):=fun W hW=>by
                have hn:=(rV.ext hW).setEl zG zp hP (j:=j) (by rw [Ak];exact LM) q;rw [List.set_set,l0_ HSL.out (by rw [hq,hs1];exact Z1w hu hy)] at hn;exact ⟨hn.1,hn.2 _ _ (Bt.ext hW) Gp⟩
               have HFR:Hid (∀ W,aA wk W->W.frozen? ⟨ti.1,j*2,none⟩=false/\W.frozen? ⟨ti.1,j*2+1,none⟩=false):=fun W hW=>⟨(hrow.ext hW).free _,(hrow.ext hW).free _⟩
               clear vj CA hP JV Ak hPu hrow xL hu hy hq hs1 hrl hpl hxs hys yf;go_wp2_with fail;refine iq (fun w'=>w'.cell? ⟨g0,i,none⟩=some (.slice (some ⟨ti.1,0,none⟩) C ti.2)/\w'.cell? ⟨g0,k,none⟩=some (.slice (some ⟨t.1,0,none⟩) C t.2)/\w'.cell? ⟨ti.1,j*2,none⟩=some (.string (aB u.num))/\w'.cell? ⟨ti.1,j*2+1,none⟩=some (.string (aE u.den))/\w'.cell? ⟨t.1,j*2,none⟩=some (.string (aB y.num))/\w'.cell? ⟨t.1,j*2+1,none⟩=some (.string (aE y.den))/\w'.cell? ⟨wi.heap.size,0,none⟩=some (.string (aB x.num))/\w'.cell? ⟨wi.heap.size,1,none⟩=some (.string (aE x.den))/\Hid (aA wk w')) 23 (by kernel_rfl) ⟨(aA.drew wk).cell c1,(aA.drew wk).cell c2,(aA.drew wk).cell g2,(aA.drew wk).cell g3,(aA.drew wk).cell y2,(aA.drew wk).cell y3,(aA.drew wk).cell e0,(aA.drew wk).cell e1,aA.drew wk⟩ (fun pO=>?_);refine rA [0,1,2,3,4,5,6,7,8,9,10,11,12,13,14,15,16,17,18,19] ?_
               iterate 20 ((first|(refine rL (v:=?_) (by rfl) (Or.inl ⟨by rfl,?_⟩) ?_;rotate_left;·((intro w' qM);(try dsimp only at qM);(try go_simp);(try with_reducible rfl)))|(refine rW (v:=?_) (by rfl) (Or.inl ⟨by rfl,?_⟩) ?_;rotate_left;·((intro w');(try go_simp);(try with_reducible rfl))));(try simp only [Act.put,aQ,aR,aS]))
               refine rE ?_;refine dH 20 (by kernel_rfl) rfl (fun K hK=>?_);go_simp
               (go_at_call 278;refine (Da _ pO.2.2.2.2.2.2.2.2).mono ?_)
               rintro e w5 ⟨rfl,pV⟩;go_wp2_with fail;refine hK _ _ (⟨pV.cell pO.1,pV.cell pO.2.1,pV.cell pO.2.2.1,pV.cell pO.2.2.2.1,pV.cell pO.2.2.2.2.1,pV.cell pO.2.2.2.2.2.1,pV.cell pO.2.2.2.2.2.2.1,pV.cell pO.2.2.2.2.2.2.2.1,aA.trans pO.2.2.2.2.2.2.2.2 pV⟩) (fun pO=>?_);clear hK K
               (try simp only [Act.put,aQ,aR,aS])
               refine dH 21 (by kernel_rfl) rfl (fun K hK=>?_);go_simp
               (go_at_call 280;refine (qE _ pO.2.2.2.2.2.2.2.2).mono ?_)
               rintro e w5 ⟨rfl,pV⟩;go_wp2_with fail;refine hK _ _ (⟨pV.cell pO.1,pV.cell pO.2.1,pV.cell pO.2.2.1,pV.cell pO.2.2.2.1,pV.cell pO.2.2.2.2.1,pV.cell pO.2.2.2.2.2.1,pV.cell pO.2.2.2.2.2.2.1,pV.cell pO.2.2.2.2.2.2.2.1,aA.trans pO.2.2.2.2.2.2.2.2 pV⟩) (fun pO=>?_);clear hK K
               (try simp only [Act.put,aQ,aR,aS])
               refine tW (v:=?_) 22 rfl (Or.inl ⟨by rfl,?_⟩) ?_;rotate_left;·((intro w');(try go_simp);(try with_reducible rfl))
               (try simp only [Act.put,aQ,aR,aS])
               have z1:=pO.2.2.1;have z2:=pO.2.2.2.1;obtain ⟨z4,z5⟩:=HFR _ pO.2.2.2.2.2.2.2.2;have HM7:=yJ _ pO.2.2.2.2.2.2.2.2;refine fL 23 (by kernel_rfl) (by kernel_rfl) (by kernel_rfl) rfl (fun K hK=>?_);go_simp;refine hK _ _ ?_;clear hK K
               (try simp only [Act.put,aQ,aR,aS])
               go_wp2_with fail;go_roundw
               case rel=>exact ⟨j+1,by go_num,by omega,HM7.1,HM7.2⟩
               case measure=>simp [intOf];omega
              ·have yF:Hid (cN w wk g0 w.heap.size pU (di m2 p c k (i+1)) dd (.slice av k cv) ld pW):=by
                have h8:=rV.out;rw [m7_ _ _ _ HSL.out (by rw [HRI.out.2.1];omega)] at h8;unfold Hid;rw [A9.out];exact h8
               go_wp2_with fail;go_roundw
               case rel=>exact ⟨i+1,by go_num,by omega,yF⟩
               case measure=>simp [intOf];omega
          ·have HM3:Hid (cN w wi g0 w.heap.size pU (di m2 p c k L) dd (.slice av k cv) ld pW):=by
            have FY:i=L:=(by omega);rw [<- FY];exact HMI
           have HB3:=oZ HM3.lead.build;have HLL:Hid (ld.length<1000000):=(by unfold Hid;rw [<- HK.out];omega);have hszr:w.heap.size+1<=wi.heap.size:=HM3.size;go_wp2_with (at_builtin;go_must (refine iQ _ rfl _ _ 29 rfl (w.heap.size+1) 3 (.int .i64 0) 1 8 underlying29 jo rfl (by decide) (.slice av k cv) Z7k ld c #[.int .i64 c] 3 rfl HB3 rfl rfl ?e1 (fun _ _=>rfl) HLL (by decide) hszr ?_))
           all_goals first | (simp [Value.oneCell'];done) | skip
           intro v' w5 pf qz hb5 hs5 _;have HF:=oZ ((HM3.push zG (oz _) hb5 pf.ownI).redOf HNX);clear pf qz hb5 HB3;go_wp2_with fail;go_roundw
           case rel=>exact ⟨c+1,pW,by omega,by go_num,HF⟩
           case measure=>simp [intOf];omega
    ·obtain rfl:a=L:=(by omega);have HMID:Hid (cN w wi g0 w.heap.size pU m d (.slice av k cv) ld tags) :=
      ⟨HMM.ext HE,HBB.ext HE,HLD.ext HE,HSAME,HP.trans (HE.grownS _),ov HDS HE.size⟩
     obtain ⟨z,hz⟩:∃ z:Rat,z=0:=⟨_,rfl⟩;have HNX:Hid (aq m0 (c+1)=⟨m,ld,z⟩):=by
      unfold Hid;rw [HST.out,Z1u,hz];rw [tE.out.2,<- HK.out];exact v1_ m c _ k a FR (by omega) HZ (fun h=>by omega)
     have rm:Hid (∀ W,pI 276 #[] W (.agg #[.string (aB z.num),.string (aE z.den)])):=by
      unfold Hid;rw [hz];exact fun W=>F6_ W
     clear hz HST HZ HMM HBB HLD;go_wp2_with fail;refine (rm _).mono ?_;rintro e w5 ⟨rfl,pV⟩;have HM5:=oZ (HMID.ext pV);obtain ⟨b0,b1,b2,b3⟩:=HM5.box.cells;have HF:=oZ (HM5.setBox zu (oz _) z);clear pV rm;go_wp2_with fail;go_roundw
     case rel=>exact ⟨c+1,tags,by omega,by go_num,HF.redOf HNX⟩
     case measure=>simp [intOf];omega
  ·obtain rfl:c=n:=(by omega);have HMID:=oZ HR.mid;have zu:Hid (∀ b,dA g0 tags b->b<w.heap.size):=fun b hb=>HBW b ((HR.same b).1 hb);obtain ⟨d,hd⟩:=pL ((aq m0 c).det);rw [<- hd] at HMID;have Mt:Hid (d=(aq m0 c).det):=hd;have HM6:=oZ (HMID.ext (aA.drew _));obtain ⟨b0,b1,b2,b3⟩:=HMID.box.cells;have HF:=oZ (HM6.setBox zu (oz _) d);clear hd HR HP Ms HOK HSH;go_wp2_with fail
   go_region
   all_goals
    go_wp2_with fail;refine bodyPost_ret (X9_ (by rfl) _ _ w.heap.size 246 #[.string (aB d.num),.string (aE d.den)] (0,0) _ (.slice av k cv) (by rfl) (by rfl) HF.box underlying246 (by rfl) (by kernel_rfl)) (by rfl) ⟨_,tags,by rw [<- Mt.out];rfl,HF.lead.low (Nat.le_succ _),HF.mat,HF.same,HF.grown⟩
def dB (r:pN):List Rat:=r.map fun x:Int=>(x:Rat)
theorem lq (r:pN):(dB r).length=r.length:=by simp [dB]
def dy (m:pM):List (List Rat):=m.map dB
theorem K0_ (m:pM):(dy m).length=m.length:=by simp [dy]
structure nN (m:List (List Rat)):Prop where
 val:∀ i j,aJ m i j=0\/aJ m i j=1
 one:∀ i i' j,aJ m i j=1->aJ m i' j=1->i=i'
theorem w9_ {m:List (List Rat)} {i c:Nat} (h:m.length<=i):aJ m i c=0:=by
 unfold aJ cE;rw [oe (l:=m),o4 h];simp
theorem h1_ {m:List (List Rat)} {a b:Nat} (ha:a<m.length) (hb:b<m.length) (i j:Nat):aJ (b8 m a b) i j=aJ m (if i=b then a else if i=a then b else i) j:=by
 unfold aJ cE;rw [oe (l:=b8 m a b),oe (l:=m),iw (oc ha) (oc hb)];by_cases h1:i=b;·rw [if_pos h1,if_pos h1,oc ha]
 ·rw [if_neg h1,if_neg h1];by_cases h2:i=a;·rw [if_pos h2,if_pos h2,oc hb]
  ·rw [if_neg h2,if_neg h2]
theorem nN.swp {m:List (List Rat)} (h:nN m) {a b:Nat} (ha:a<m.length) (hb:b<m.length):nN (Proofs.YtoonaddcfakamaaGreatDoor.b8 m a b):=by
 refine ⟨fun i j=>by rw [h1_ ha hb];exact h.val _ _,fun i i' j h1 h2=>?_⟩;rw [h1_ ha hb] at h1 h2;have e:=h.one _ _ _ h1 h2
 repeat' split at e
 all_goals omega
theorem B0_ (m:List (List Rat)) (c:Nat):∀ (f a:Nat),a<=fR m c f a/\fR m c f a<=a+f/\(∀ j,a<=j->j<fR m c f a->aJ m j c=0)/\(fR m c f a<a+f->aJ m (fR m c f a) c≠0)
 | 0,a=>⟨oz _,oz _,fun j h1 h2=>by have:j<a:=h2;omega,fun h=>by have:a<a+0:=h;omega⟩
 | f+1,a=>by
  unfold fR;by_cases h:aJ m a c=0
  ·rw [if_pos h];obtain ⟨h1,h2,h3,h4⟩:=B0_ m c f (a+1);refine ⟨by omega,by omega,fun j Iy xa=>?_,fun hh=>h4 (by omega)⟩;by_cases e:j=a;·rw [e];exact h
   ·exact h3 j (by omega) xa
  ·rw [if_neg h];exact ⟨oz _,by omega,fun j h1 h2=>by omega,fun _=>h⟩
theorem nN.rs {m:List (List Rat)} (h:nN m):gK 2500 m:=by
 intro r hr x hx;obtain ⟨i,hi⟩:=List.getElem?_of_mem hr;obtain ⟨j,hj⟩:=List.getElem?_of_mem hx;have e:aJ m i j=x:=ns (by rw [lr hi];exact hj);have hs:(aB 1).size<=2/\(aB 0).size<=2/\(aE 1).size<=2:=by
  unfold aB aE Lib.itoa;rw [if_neg (by omega),if_neg (by omega),show (1:Int).toNat=1 from rfl,show (0:Int).toNat=0 from rfl,Lib.decDigits_one (by omega),Lib.decDigits_one (by omega)];exact ⟨by decide,by decide,by decide⟩
 rcases h.val i j with h0 | h0
 ·rw [<- e,h0];exact ⟨ow hs.2.1 (by omega),ow hs.2.2 (by omega)⟩
 ·rw [<- e,h0];exact ⟨ow hs.1 (by omega),ow hs.2.2 (by omega)⟩
def gT (xss:pM) (mo:Nat->List Rat) (i:Nat):List (List Rat):=(List.range i).map fun k=>dB (xss.getD k [])++mo k
theorem e7_ {xss:pM} {mo:Nat->List Rat} {i:Nat} {r:pN} (h:xss[i]?=some r):gT xss mo (i+1)=gT xss mo i++[dB r++mo i]:=by
 unfold gT;rw [List.range_succ,List.map_append,List.map_cons,List.map_nil,oe (l:=xss),h];rfl
theorem oL (xss:pM) (mo:Nat->List Rat) (i:Nat):(gT xss mo i).length=i:=by simp [gT]
theorem Z1m {r:pN} {k:Nat} {x:Int} (h:r[k]?=some x):dB (r.take (k+1))=dB (r.take k)++[(x:Rat)]:=by
 unfold dB;rw [ou,h,List.map_append];rfl
def Z5s (g:Nat) (lb:Array Value) (n:Nat) (mo:Nat->List Rat) (w:World):Prop :=
 ∀ (i:Nat) W,i<n->aA w W->Calls prog g (#[.int .i64 (i:Int)]++lb) W fun e W'=>∃ u,e=.returned u/\dS W' u (mo i)/\aA W W'
theorem t9_ (xss:pM) (v:Value) (g:Nat) (lb:Array Value) (mo:Nat->List Rat) (w:World) (h:aw w v xss) (hl:xss.length<=1000) (hr:∀ r∈xss,r.length<=1000)
  (tK:∀ i r,xss[i]?=some r->0<r.length+(mo i).length/\(mo i).length<=1000) (eg:∀ args w,(callFunc g args).run prog w=.ok (.enter g args) w) (hm:Z5s g lb xss.length mo w) (ht:ag w) :
  Calls prog 204 #[v,.func (.func g) #[] lb] w fun e w'=>∃ u tags,e=.returned u/\bu jW 267 w' w.heap.size w.heap.size u tags (gT xss mo xss.length)/\aA w w':=by
 obtain ⟨a,c,rfl,h1,h2,-,hc⟩:=ae.open h;have HC:=oZ hc;have HM:=oZ hm;have HT:=oZ ht;have HR:=oZ hr;have HMO:=oZ tK;unfold maxLen at h2;clear h hc hm ht hr tK
 go_enter func204,ntmps204
 go_wp2_with fail
 go_loopw [13,5] (fun t v wr=>∃ (i:Nat) (tags:List (Nat×Nat)),i<=xss.length/\t=.int .i64 i/\aA w wr/\Hid (bu jW 267 wr w.heap.size w.heap.size v tags (gT xss mo i))) (fun t _ _=>xss.length-(intOf t).toNat)
 case atStart=>exact ⟨0,[],by omega,rfl,aA.refl _,bu.nil _ _ _ _ _⟩
 case round =>
  obtain ⟨i,tags,hin,rfl,hE,HO⟩:=hrel;obtain ⟨wo,rfl⟩:∃ wo:World,wo=wr:=⟨_,rfl⟩;have HE:=oZ hE;by_cases hlt:i<xss.length
  ·obtain ⟨b,off,rfl,hb,pP⟩:=HC (by intro e;simp [e] at hlt);obtain ⟨r,hx⟩:∃ x,xss[i]?=some x:=⟨xss[i],oc hlt⟩;obtain ⟨vx,qc,ph⟩:=pP i r hx;obtain ⟨ax,cx,rfl,k1,k2,-,hbd,kc⟩:=aM.open qc;have g1:=hE.cell ph;have HX:=oZ (aM.ext qc hE);have HK:=oZ kc;have HBD:=oZ hbd;have HI:=oZ hx;have HSU:=oZ (e7_ (mo:=mo) hx);have hrl:=HR r (og hx);have HMI:=oZ (HMO i r hx);unfold maxLen at k2;clear pP hx qc ph kc hbd;go_wp2_with fail;clear g1
   go_loopw [20,8] (fun t v wr=>∃ k:Nat,k<=r.length/\t=.int .i64 k/\Hid (aA wo wr)/\Hid (dc wo.heap.size wr v (dB (r.take k)))) (fun t _ _=>r.length-(intOf t).toNat)
   case atStart=>exact ⟨0,by omega,rfl,aA.refl _,dc.nil _ _⟩
   case round =>
    obtain ⟨k,hk,rfl,sx,HQ⟩:=hrel;obtain ⟨wi,rfl⟩:∃ wi:World,wi=wr:=⟨_,rfl⟩;by_cases hlk:k<r.length
    ·obtain ⟨bx,offx,rfl,hbx,sF⟩:=HK (by intro e;simp [e] at hlk);obtain ⟨x,hx⟩:∃ x,r[k]?=some x:=⟨r[k],oc hlk⟩;have g1:=(HE.trans sx).cell (sF k x hx);have HTK:=oZ (Z1m hx);have hb:=HBD x (og hx);have HOF:=oZ (jx x wi hb.1 hb.2 (HT.ext (HE.trans sx)));clear sF hx hb;go_wp2_with fail;refine HOF.mono ?_;rintro e w1 ⟨rfl,hE1⟩;have HQ1:=oZ (HQ.ext hE1);have HX1:=oZ (aA.trans sx hE1);have HQ2:Hid (dc wo.heap.size (w1.alloc (.cells #[.string (aB x),.string ⟨#[49]⟩] 246)) u8 (dB (r.take k))):=HQ1.ext (aA.alloc _ _);have HU:Hid (dS (w1.alloc (.cells #[.string (aB x),.string ⟨#[49]⟩] 246)) (.slice (some ⟨w1.heap.size,0,none⟩) 1 1) [(x:Rat)]):=by
      have:=dS.one w1 (x:Rat) 246;rw [show ((x:Rat)).num=x from rfl,show ((x:Rat)).den=1 from rfl,ik] at this;exact this
     have hs1:wo.heap.size<=(w1.alloc (.cells #[.string (aB x),.string ⟨#[49]⟩] 246)).heap.size:=by
      have:=HX1.size;rw [World.size_alloc];omega
     have HS1:=oZ hs1;have HLE:Hid ((dB (r.take k)).length+[(x:Rat)].length<1000000):=by
      unfold Hid;rw [lq,om];simp;omega
     clear hE1 HOF g1 hs1;go_wp2_with (at_builtin;go_must (refine Y3_ _ rfl _ _ rfl wo.heap.size u8 _ (dB (r.take k)) [(x:Rat)] rfl HQ2 rfl HU HLE HS1 ?_));intro v' w2 xw hb2 _;rw [<- HTK.out] at xw;have HQ3:=oZ xw;have HX2:Hid (aA wo w2):=Below.trans (aA.trans HX1 (aA.alloc w1 (.cells #[.string (aB x),.string ⟨#[49]⟩] 246))) hb2;clear xw hb2;go_wp2_with fail;go_roundw
     case rel=>exact ⟨k+1,by omega,by go_num,HX2,HQ3⟩
     case measure=>simp [intOf];omega
    ·obtain rfl:k=r.length:=(by omega);rw [List.take_length] at HQ;have HCALL:=oZ (HM i wi hlt (HE.trans sx));go_wp2_with fail;refine HCALL.mono ?_;rintro e w1 ⟨um,rfl,IN,hE1⟩;have HQ1:=oZ (HQ.ext hE1);have HX1:=oZ (aA.trans sx hE1);have HUM:=oZ IN;have HLE:Hid ((dB r).length+(mo i).length<1000000):=by
      unfold Hid;have:=HMI.2;rw [lq];omega
     have HS1:=oZ HX1.size;clear hE1 HCALL IN;go_wp2_with (at_builtin;go_must (refine Y3_ _ rfl _ _ rfl wo.heap.size u8 _ (dB r) (mo i) rfl HQ1 rfl HUM HLE HS1 ?_));intro v' w2 xw hb2 _;have HX2:Hid (aA wo w2):=Below.trans HX1 hb2;obtain ⟨gq,cq,rfl,d1,d2,d3,d4⟩:=eu xw (by rw [pG,lq];exact HMI.1);have HRQ:=oZ xw.row;obtain ⟨nq,Du⟩:=pL ((dB r++mo i).length);rw [<- Du] at d3 |-;have HNQ:=oZ Du;have HO2:=oZ (HO.ext HX2);have HV:Hid (u5.ownBlock≠some gq):=fun e=>by have:=(HO.own.lt _ e).2;omega
     have HN:Hid (gq∉tags.map (·.1)):=fun e=>by have:=(HO.fresh e).2;omega
     have HSZ:Hid (w.heap.size<=gq/\w.heap.size<=w2.heap.size):=by
      have h1:=HE.size;have h2:=HX2.size;exact ⟨by omega,by omega⟩
     have HLN:Hid ((gT xss mo i).length<1000000):=(by unfold Hid;rw [oL];omega);have Dg:Hid ((dB r++mo i).length<=cq/\cq<=9223372036854775807):=⟨by rw [<- Du];exact d3,d4⟩;clear xw hb2 d1 d2 d3 d4 Du;go_wp2_with (at_builtin;go_must (refine R3_ (K:=jW) (e:=267) underlying249 Z4I _ rfl _ _ rfl w.heap.size w.heap.size u5 tags (gT xss mo i) (gq,cq) (dB r++mo i) #[.slice (some ⟨gq,0,none⟩) nq cq] 267 rfl HO2 (by rfl) (by rw [HNQ.out];rfl) Dg.1 Dg.2 HRQ HSZ.1 HV HN HLN HSZ.2 ?_));intro v' w5 Al hb5 _;rw [<- HSU.out] at Al;have HO5:=oZ Al;have HX5:=oZ (Below.trans (aA.trans HE HX2) hb5);clear Al hb5;go_wp2_with fail;go_roundw
     case rel=>exact ⟨i+1,_,by omega,by go_num,HX5,HO5⟩
     case measure=>simp [intOf];omega
  ·obtain rfl:i=xss.length:=(by omega);go_wp2_with fail;go_ret;exact ⟨_,tags,rfl,HO,hE⟩
theorem f2_ (i:Int) (w:World):pJ 205 #[.int .i64 i] w (.slice none 0 0):=by
 go_enter func205,ntmps205
 go_wp2
 go_ret;exact ⟨rfl,rfl⟩
theorem dS.nil (w:World):dS w (.slice none 0 0) []:=⟨[],rfl,by simp,⟨none,0,rfl,oz _,Nat.zero_le _,fun _=>rfl,fun h=>absurd rfl h⟩,by simp⟩
theorem m3_ (n:Nat) (w:World):Z5s 205 #[] n (fun _=>[]) w:=fun i W _ _ =>
 (f2_ i W).mono fun e W' ⟨h1,h2⟩=>⟨_,h1,dS.nil _,h2▸aA.refl _⟩
def bP (xss:pM):Nat:=(xss.headD []).length
theorem j0_ (n:Nat):∀ xss,iy n xss=0->∀ r∈xss,r.length=n/\r.length<=12/\∀ x∈r,-1000000000<=x/\x<=1000000000
 | [],_,r,hr=>by simp at hr
 | q::l,h,r,hr=>by
  unfold iy at h
  split at h
  ·cases h
  ·split at h
   ·split at h
    ·cases h
    ·rename_i h1 h2 h3;rcases List.mem_cons.1 hr with rfl | hr
     ·refine ⟨h2,by omega,fun x hx=>?_⟩;rw [<- nu];simp only [List.any_eq_true,Bool.not_eq_true',not_exists,not_and,Bool.not_eq_false] at h3;exact h3 x hx
     ·exact j0_ n l h r hr
   ·cases h
theorem ko {xss:pM} (h:cL xss=0):xss.length<=12/\∀ r∈xss,r.length=bP xss/\r.length<=12/\∀ x∈r,-1000000000<=x/\x<=1000000000:=by
 unfold cL at h
 split at h
 ·cases h
 ·exact ⟨by omega,j0_ _ xss h⟩
theorem e6_ (xss:pM):gT xss (fun _=>[]) xss.length=dy xss:=by
 unfold gT dy;apply List.ext_getElem;·simp
 ·intro i h1 h2;simp only [List.length_map,List.length_range] at h1;simp [h1]
theorem Y7_ (xss:pM) (v:Value) (w:World) (h:aw w v xss) :
  pJ 200 #[v] w (.int .i64 (bP xss:Int)):=by
 obtain ⟨a,c,rfl,h1,h2,-,hc⟩:=ae.open h;clear h;unfold maxLen at h2;cases xss with
 | nil =>
  clear hc
  go_enter func200,ntmps200
  go_wp2
  go_ret;exact ⟨rfl,rfl⟩
 | cons r l =>
  obtain ⟨b,off,rfl,hb,pP⟩:=hc (by simp);obtain ⟨vx,qc,ph⟩:=pP 0 r rfl;obtain ⟨ax,cx,rfl,-,-,-,-,-⟩:=aM.open qc;rw [Nat.add_zero] at ph;obtain ⟨m,hm⟩:=pL ((r::l).length);have hq:((m:Int) == 0)=false:=by rw [beq_eq_false_iff_ne,hm,List.length_cons];omega
  have hpos:(0:Int)<(m:Int):=by rw [hm,List.length_cons];omega
  have HCN:Hid (bP (r::l)=r.length):=rfl;rw [<- hm] at h1 |-;clear hc pP qc hm
  go_enter func200,ntmps200
  go_wp2
  go_ret;rw [HCN.out];exact ⟨rfl,rfl⟩
theorem G6_ (v:Value) (w:World) (hv:∃ a n c,v=.slice a n c) :
  pI 203 #[v,.int .i64 0] w (.tuple #[.slice none 0 0,bR 1]):=by
 obtain ⟨a,n,c,rfl⟩:=hv;obtain ⟨W1,pc,hE1,hs1,hb1⟩:=dO w (.string ⟨#[]⟩) (.string ⟨#[]⟩) 246;have HE1:=oZ hE1;have HB1:Hid (∀ W,aA W1 W->af w.heap.size W):=fun W hW=>af.ext ⟨_,_,hb1⟩ hW;obtain ⟨r0,r1,rf⟩:=dI hb1;clear hE1 hb1 rf
 go_enter func203,ntmps203
 go_wp2_with fail;refine (Z0n _).mono ?_;rintro e w2 ⟨rfl,hE2⟩;have HE2:=oZ hE2;obtain ⟨q0,q1,t0,t1,f0,f1⟩:=(HB1 _ hE2).open;have hbx:=(HB1 _ hE2);rw [K1_];have tS:Hid (dD ((w2.setCell ⟨w.heap.size,0,none⟩ (.string ⟨#[49]⟩)).setCell ⟨w.heap.size,1,none⟩ (.string ⟨#[49]⟩)) w.heap.size 1):=by
  have:=hbx.res (x:=.string ⟨#[49]⟩) (y:=.string ⟨#[49]⟩);unfold Hid dD;rw [this];show some (Obj.cells #[.string ⟨#[49]⟩,.string ⟨#[49]⟩] 246 (0,0))=some (Obj.cells #[.string (aB 1),.string (aE 1)] 246 (0,0));rw [n7,ik]
 have HX:Hid (aA w ((w2.setCell ⟨w.heap.size,0,none⟩ (.string ⟨#[49]⟩)).setCell ⟨w.heap.size,1,none⟩ (.string ⟨#[49]⟩))):=eB (HE1.trans hE2) (oz _);clear hE2 hbx r0 r1;go_wp2_with fail;clear q0 q1 t0 t1 f0 f1;refine wp_loop_once ?_;obtain ⟨W3,vP⟩:=pL (((w2.setCell ⟨w.heap.size,0,none⟩ (.string ⟨#[49]⟩)).setCell ⟨w.heap.size,1,none⟩ (.string ⟨#[49]⟩)));rw [<- vP] at tS HX |-;clear vP;obtain ⟨b0,b1,b2,b3⟩:=tS.cells;rw [show (1:Rat).num=1 from rfl,n7] at b0;rw [show (1:Rat).den=1 from rfl,ik] at b1;have HSET:=oZ ((tS.ext (aA.drew W3)).set 1);have HX2:Hid (aA w ((W3.drew.setCell ⟨w.heap.size,0,none⟩ (.string ⟨#[49]⟩)).setCell ⟨w.heap.size,1,none⟩ (.string ⟨#[49]⟩))):=eB (HX.trans (aA.drew _)) (oz _);rw [show (1:Rat).num=1 from rfl,show (1:Rat).den=1 from rfl,n7,ik] at HSET;go_wp2_with fail
 go_region
 all_goals
  go_wp2_with fail;refine bodyPost_ret (X9_ (by rfl) _ _ w.heap.size 246 #[.string (aB 1),.string (aE 1)] (0,0) _ (.slice none 0 0) (by rfl) (by rfl) HSET underlying246 (by rfl) (by kernel_rfl)) (by rfl) ⟨rfl,HX2⟩
theorem bu.toMat {e:TypeId} {w:World} {ob base:Nat} {u:Value} {tags:List (Nat×Nat)} {m:List (List Rat)} (h:bu jW e w ob base u tags m) (hob:base<=ob) (hpos:0<m.length) :
  ∃ g cap,u=.slice (some ⟨g,0,none⟩) m.length cap/\c8 w g tags m/\m.length<=cap/\cap<=9223372036854775807/\∀ b,dA g tags b->base<=b:=by
 obtain ⟨g,cap,rfl,-⟩:=eu h.own hpos;obtain ⟨h1,h2,h3,h4⟩:=h.matQ hob;exact ⟨g,cap,rfl,h1,h2,h3,h4⟩
theorem bu.form {α:Type} {K:iG α} {e:TypeId} {w:World} {ob base:Nat} {u:Value} {tags:List (Nat×Nat)} {m:List (List α)} (h:bu K e w ob base u tags m):∃ a n c,u=.slice a n c:=by
 rcases h.own.2 with ⟨rfl,hn⟩ | ⟨g,cap,cur,rfl,hb,hg,h1,h2,h3,h4⟩
 ·exact ⟨_,_,_,rfl⟩
 ·exact ⟨_,_,_,rfl⟩
structure Z6O (wb w1 w':World) (u v:Value) (pU:List (Nat×Nat)) (m:List (List Rat)) (n:Nat):Prop where
 lead:dR w1.heap.size w' v (aq m n).lead
 ext:aA wb w'
 low:wb.heap.size<=w1.heap.size
 keep:aH (fun b=>b∈pU.map (·.1)\/u.ownBlock=some b) w1 w'
 mat:m≠[]->∃ g tags cap,u=.slice (some ⟨g,0,none⟩) m.length cap/\c8 w' g tags (aq m n).m/\m.length<=cap/\cap<=9223372036854775807/\∀ b,dA g tags b->wb.heap.size<=b
theorem U3_ (m:List (List Rat)) (n C:Nat) (u:Value) (tags:List (Nat×Nat)) (wb w1:World) (hO:bu jW 267 w1 wb.heap.size wb.heap.size u tags m) (yd:aA wb w1) (hC:b_ C m) (hn:n<=C) (EB:C<=1000) (hl:m.length<=1000)
  (hok:∀ c,c<n->gK 2500 (aq m c).m/\RS 9000 (aq m c).det) (ht:ag wb) (hz:m=[]->n=0) :
  Calls prog 203 #[u,.int .i64 (n:Int)] w1 fun e w'=>∃ v,e=.returned (.tuple #[v,bR (aq m n).det])/\Z6O wb w1 w' u v tags m n:=by
 by_cases hm:m=[]
 ·obtain rfl:=hz hm;refine (G6_ u w1 hO.form).mono ?_;rintro e w' ⟨rfl,hE⟩;exact ⟨_,rfl,dR.nil _ _,yd.trans hE,yd.size,hE.grownS _,fun h=>absurd hm h⟩
 ·obtain ⟨g,cap,rfl,h1,h2,h3,h4⟩:=hO.toMat (oz _) (List.length_pos_iff.2 hm);refine (Z1k m g cap n C tags wb w1 h1 hC hn EB hl h2 h3 hok yd ht h4).mono ?_;rintro e w' ⟨v,tags',rfl,k1,k2,k3,k4⟩
  exact ⟨v,rfl,k1,Below.trans yd (k4.belowE (B:=wb.heap.size) h4 yd.size),yd.size,k4.weak (fun b _ hb=>by
   rcases List.mem_cons.1 hb with rfl | hb;·exact .inr rfl
   ·exact .inl hb),fun _=>⟨g,tags',cap,rfl,k2,h2,h3,fun b hb=>h4 b ((k3 b).1 hb)⟩⟩
end Go.Proofs.YtoonaddcfakamaaGreatDoor
