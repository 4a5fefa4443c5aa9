import Derived.Test.YtjlkkofmojgipaaGreatDoorPAK
import Derived.Test.YtjlkkofmojgipaaGreatDoorPAA
import Derived.Laws.AppendOwnNone
import Derived.Deep.RegionHeld3
namespace Go.Proofs.YtjlkkofmojgipaaGreatDoor
set_option linter.unusedVariables false
set_option linter.unusedSimpArgs false
open Go.RowKit
theorem infoRat:(Tryz.prog.info? 152).map (fun i=>(i.zero,i.size,i.bytes))=some (some (.agg #[.string ⟨#[]⟩,.string ⟨#[]⟩]),2,32):=by kernel_rfl
theorem infoRats:(Tryz.prog.info? 197).map (fun i=>(i.zero,i.size,i.bytes))=some (some (.slice none 0 0),1,24):=by kernel_rfl
def ratR (_:World) (u:List Value) (q:Rat):Prop:=u=[.string (intB q.num),.string (numB q.den)]
theorem ratR.mono:Mono ratR:=fun _ _ _ _ _ h=>h
abbrev Rats (w:World) (v:Value) (xs:List Rat):Prop:=ListAt 2 ratR w v xs
theorem Rats.ext {w w':World} {v:Value} {xs:List Rat} (h:Rats w v xs) (he:Ext w w'):Rats w' v xs:=ListAt.ext ratR.mono h he
def cellsQ (l:List Rat):List Value:=(l.map fun q:Rat=>[Value.string (intB q.num),Value.string (numB q.den)]).flatten
theorem cellsQ_append (a b:List Rat):cellsQ (a++b)=cellsQ a++cellsQ b:=by simp [cellsQ]
theorem cellsQ_len:∀ l:List Rat,(cellsQ l).length=l.length*2
 | []=>rfl
 | q::l=>by
  have h:=cellsQ_len l
  unfold cellsQ at h ⊢
  rw [List.map_cons,List.flatten_cons,List.length_append,h]
  simp;omega
theorem cellsQ_get {l:List Rat} {j:Nat} {q:Rat} (h:l[j]?=some q):(cellsQ l)[j*2]?=some (.string (intB q.num))∧(cellsQ l)[j*2+1]?=some (.string (numB q.den)):=by
 have hk:∀ u∈(l.map fun q:Rat=>[Value.string (intB q.num),Value.string (numB q.den)]),u.length=2:=by
  intro u hu
  obtain ⟨x,-,rfl⟩:=List.mem_map.1 hu
  rfl
 have hm:(l.map fun q:Rat=>[Value.string (intB q.num),Value.string (numB q.den)])[j]?=some [Value.string (intB q.num),Value.string (numB q.den)]:=by rw [List.getElem?_map,h];rfl
 have h0:=flatten_get _ j 0 _ hk hm (by omega)
 have h1:=flatten_get _ j 1 _ hk hm (by omega)
 exact ⟨h0,h1⟩
def OwnQ (B:Nat) (w:World) (v:Value) (l:List Rat):Prop:=w.ownsRow B 152 2 v l.length (cellsQ l)
theorem OwnQ.nil (B:Nat) (w:World):OwnQ B w (.slice none 0 0) []:=World.ownsRow_nil w B 152 2
theorem OwnQ.ext {B:Nat} {w w':World} {v:Value} {l:List Rat} (h:OwnQ B w v l) (he:Ext w w'):OwnQ B w' v l:=owns_ext h he
theorem OwnQ.lt {B:Nat} {w:World} {v:Value} {l:List Rat} (h:OwnQ B w v l):∀ b,v.ownBlock=some b→B≤b∧b<w.heap.size:=World.ownsRow.lt h
theorem OwnQ.form {B:Nat} {w:World} {v:Value} {l:List Rat} (h:OwnQ B w v l):∃ a cap,v=.slice a l.length cap∧l.length≤cap∧cap≤9223372036854775807:=by
 rcases h.2 with ⟨rfl,hn⟩ | ⟨g,cap,cur,rfl,hb,hg,h1,h2,h3,h4⟩
 ·exact ⟨none,0,by rw [hn],by omega,by omega⟩
 ·exact ⟨_,cap,rfl,h1,h2⟩
theorem OwnQ.low {B B':Nat} {w:World} {v:Value} {l:List Rat} (h:OwnQ B w v l) (hb:B'≤B):OwnQ B' w v l:=by
 refine ⟨h.1,?_⟩
 rcases h.2 with h' | ⟨g,cap,cur,rfl,hg,rest⟩
 ·exact .inl h'
 ·exact .inr ⟨g,cap,cur,rfl,Nat.le_trans hb hg,rest⟩
theorem OwnQ.row {B g n c:Nat} {w:World} {l:List Rat} (h:OwnQ B w (.slice (some ⟨g,0,none⟩) n c) l):RowQ w g l:=by
 obtain rfl:n=l.length:=by
  obtain ⟨a,cap,hv,-⟩:=h.form
  simp only [Value.slice.injEq] at hv
  exact hv.2.1
 have hl:=h.lt g (by simp [Value.ownBlock])
 have hc:=World.ownsRow.cells h (g:=g) (by simp [Value.ownBlock])
 have hadd:∀ j,(⟨g,0,none⟩:Addr).add j=⟨g,j,none⟩:=fun j=>by unfold Addr.add;split <;> simp_all
 refine ⟨hl.2,fun j x hx=>?_,fun j x hx=>?_,fun j=>World.ownsRow.frozenAt h j⟩
 ·have:=hc (j*2) _ (cellsQ_get hx).1
  rw [hadd] at this;exact this
 ·have:=hc (j*2+1) _ (cellsQ_get hx).2
  rw [hadd] at this;exact this
theorem Rats.one (w:World) (q:Rat) (T:TypeId):Rats (w.alloc (.cells #[.string (intB q.num),.string (numB q.den)] T)) (.slice (some ⟨w.heap.size,0,none⟩) 1 1) [q]:=by
 refine ⟨[[.string (intB q.num),.string (numB q.den)]],rfl,by simp,?_,?_⟩
 ·exact SeqAt.lit w [.string (intB q.num),.string (numB q.den)] 1 T (by unfold maxLen;omega)
 ·intro j u x hu hx
  cases j with
  | zero =>
   simp only [List.getElem?_cons_zero,Option.some.injEq] at hu hx
   subst hu;subst hx;rfl
  | succ j=>simp at hu
theorem wpList_append_rats (W:World) {ops:Array Oper} {rest:List Oper} {o:Oper} {a:Act} {Q:Exit→Act→World→Prop} (hgd:o.guard=none)
  (s x:Operand) (ho:o.op=Op.call { callee:=Callee.builtin Builtin.append,args:=#[s,x],argTypes:=#[197,197] }) (B:Nat)
  (v u:Value) (xs ys:List Rat) (hs:a.eval s=v) (hB:OwnQ B W v xs) (hx:a.eval x=u) (hu:Rats W u ys) (hlen:xs.length+ys.length<1000000) (hbase:B≤W.heap.size)
  (h:∀ v' w',OwnQ B w' v' (xs++ys)→Below B W w'→W.grownBy w' v.ownBlock→wpList Tryz.prog ops Q rest (a.put o.dst v') w') :
  wpList Tryz.prog ops Q (o::rest) a W:=by
 obtain ⟨i0,hi,hz,hsize,hby⟩:=info_parts infoRat
 obtain ⟨ad,c,rfl,h1,h2,h3,h4⟩:=hu.open
 have hbel:∀ w',W.grownBy w' v.ownBlock→Below B W w':=fun w' hg=>⟨hg.os,hg.tape,hg.output,hg.size,fun b hb=>hg.block b (by omega) fun e=>by
  have:=(hB.lt b e.symm).1
  omega⟩
 cases ad with
 | none =>
  obtain rfl:c=0:=h3 rfl
  obtain rfl:ys=[]:=List.eq_nil_of_length_eq_zero (by omega)
  rw [List.append_nil] at h
  refine wpList_append_own_none hgd s x _ ho B 152 i0 2 Tryz.underlying197 hi v xs.length (cellsQ xs) hs hB hx ?_
  exact h v W hB (Below.refl _ _) (World.grownBy.refl _ _)
 | some ad =>
  refine wpList_plain hgd fun K hK=>?_
  refine wp_append_own_at W s x _ ho B 152 i0 (.agg #[.string ⟨#[]⟩,.string ⟨#[]⟩]) 2 32 Tryz.underlying197 hi hz hsize hby rfl (by decide) v xs.length (cellsQ xs) hs hB ad ys.length c (cellsQ ys) hx (cellsQ_len ys) ?_ ?_ ?_ ?_ hbase ?_
  ·intro j q hq
   have hj:j<(cellsQ ys).length:=(List.getElem?_eq_some_iff.1 hq).1
   rw [cellsQ_len] at hj
   obtain ⟨b,off,e,hb,hc⟩:=h4 (by omega) (by intro e;rw [e] at hj;simp at hj)
   cases e
   obtain ⟨r,hr⟩:∃ r,ys[j / 2]?=some r:=⟨_,List.getElem?_eq_getElem (by omega)⟩
   obtain ⟨cs,-,rfl,hcs⟩:=hc _ r hr
   have h0:=hcs 0 (by omega);have h1:=hcs 1 (by omega)
   obtain ⟨e0,e1⟩:=cellsQ_get hr
   rw [show (⟨b,off,none⟩:Addr).add j=⟨b,off+j,none⟩ by unfold Addr.add;split <;> simp_all]
   by_cases hp:j%2=0
   ·rw [show j / 2*2=j by omega] at e0
    rw [show off+(j / 2*2+0)=off+j by omega] at h0
    rw [h0,← hq,e0];rfl
   ·rw [show j / 2*2+1=j by omega] at e1
    rw [show off+(j / 2*2+1)=off+j by omega] at h1
    rw [h1,← hq,e1];rfl
  ·intro z hz
   unfold cellsQ at hz
   obtain ⟨l,hl,hz⟩:=List.mem_flatten.1 hz
   obtain ⟨q,-,rfl⟩:=List.mem_map.1 hl
   simp only [List.mem_cons,List.not_mem_nil,or_false] at hz
   rcases hz with rfl | rfl <;> rfl
  ·unfold maxLen;omega
  ·omega
  ·intro v' w' hown hgrow _ hat
   have hown2:OwnQ B w' v' (xs++ys):=by
    unfold OwnQ
    rw [List.length_append,cellsQ_append]
    exact hown
   exact hK _ _ (h v' w' hown2 (hbel w' hgrow) hgrow)
def rowQ (m:List (List Rat)) (i:Nat):List Rat:=m.getD i []
def elQ (m:List (List Rat)) (i c:Nat):Rat:=(rowQ m i).getD c 0
theorem rowQ_get {m:List (List Rat)} {i:Nat} {r:List Rat} (h:m[i]?=some r):rowQ m i=r:=by
 unfold rowQ;rw [List.getD_eq_getElem?_getD,h];rfl
theorem get_rowQ {m:List (List Rat)} {i:Nat} (h:i<m.length):m[i]?=some (rowQ m i):=by
 rw [rowQ_get (List.getElem?_eq_getElem h)];exact List.getElem?_eq_getElem h
theorem elQ_get {m:List (List Rat)} {i c:Nat} {x:Rat} (h:(rowQ m i)[c]?=some x):elQ m i c=x:=by
 unfold elQ;rw [List.getD_eq_getElem?_getD,h];rfl
def findP (m:List (List Rat)) (c:Nat):Nat→Nat→Nat
 | 0,a=>a
 | f+1,a=>if elQ m a c=0 then findP m c f (a+1) else a
theorem findP_eq (m:List (List Rat)) (c:Nat):∀ (f a b:Nat),a≤b→b≤a+f→(∀ j,a≤j→j<b→elQ m j c=0)→(b<a+f→elQ m b c≠0)→findP m c f a=b
 | 0,a,b,h1,h2,_,_=>by show a=b;omega
 | f+1,a,b,h1,h2,h3,h4=>by
  unfold findP
  by_cases hab:a=b
  ·subst hab
   rw [if_neg (h4 (by omega))]
  ·rw [if_pos (h3 a (Nat.le_refl _) (by omega))]
   exact findP_eq m c f (a+1) b (by omega) (by omega) (fun j hj hb=>h3 j (by omega) hb) (fun hb=>h4 (by omega))
def partN {α:Type} (new old:List α) (j:Nat):List α:=new.take j++old.drop j
theorem partN_zero {α:Type} (new old:List α):partN new old 0=old:=by simp [partN]
theorem partN_len {α:Type} (new old:List α) (j:Nat) (h:new.length=old.length):(partN new old j).length=old.length:=by
 unfold partN;rw [List.length_append,List.length_take,List.length_drop];omega
theorem partN_all {α:Type} (new old:List α) (j:Nat) (h:new.length=old.length) (hj:old.length≤j):partN new old j=new:=by
 unfold partN;rw [List.take_of_length_le (by omega),List.drop_eq_nil_of_le hj,List.append_nil]
theorem partN_get {α:Type} {new old:List α} {j k:Nat} {a:α} (h:new.length=old.length) (hk:j≤k) (ho:old[k]?=some a):(partN new old j)[k]?=some a:=by
 have hl:=(List.getElem?_eq_some_iff.1 ho).1
 unfold partN
 rw [List.getElem?_append_right (by rw [List.length_take];omega),List.length_take,List.getElem?_drop,show j+(k-min j new.length)=k by omega]
 exact ho
theorem partN_set {α:Type} {new old:List α} {j:Nat} {a:α} (h:new.length=old.length) (hn:new[j]?=some a):(partN new old j).set j a=partN new old (j+1):=by
 have hl:=(List.getElem?_eq_some_iff.1 hn).1
 have hj:j<old.length:=by omega
 unfold partN
 rw [List.take_add_one,hn,List.set_append_right _ _ (by rw [List.length_take];omega),List.length_take,show j-min j new.length=0 by omega]
 have e:=List.drop_eq_getElem_cons hj
 rw [e,List.set_cons_zero,List.append_assoc]
 rfl
def divRow (r:List Rat) (q:Rat):List Rat:=r.map (· / q)
def subRow (r s:List Rat) (f:Rat):List Rat:=List.zipWith (fun x y=>x-f*y) r s
theorem divRow_get {r:List Rat} {q x:Rat} {j:Nat} (h:r[j]?=some x):(divRow r q)[j]?=some (x / q):=by
 simp [divRow,h]
theorem subRow_get {r s:List Rat} {f x y:Rat} {j:Nat} (h:r[j]?=some x) (h':s[j]?=some y):(subRow r s f)[j]?=some (x-f*y):=by
 simp [subRow,List.getElem?_zipWith,h,h']
theorem divRow_len (r:List Rat) (q:Rat):(divRow r q).length=r.length:=by simp [divRow]
theorem subRow_len (r s:List Rat) (f:Rat) (h:s.length=r.length):(subRow r s f).length=r.length:=by simp [subRow,h]
def elimR (p:List Rat) (c k i:Nat) (r:List Rat):List Rat:=if i=k∨r.getD c 0=0 then r else subRow r p (r.getD c 0)
def elimTo (m:List (List Rat)) (p:List Rat) (c k:Nat):Nat→List (List Rat)
 | 0=>m
 | j+1=>(elimTo m p c k j).set j (elimR p c k j (rowQ (elimTo m p c k j) j))
theorem elimTo_len (m:List (List Rat)) (p:List Rat) (c k j:Nat):(elimTo m p c k j).length=m.length:=by
 induction j with
 | zero=>rfl
 | succ j ih=>show ((elimTo m p c k j).set j _).length=_;rw [List.length_set,ih]
theorem elimTo_get (m:List (List Rat)) (p:List Rat) (c k:Nat):∀ (j i:Nat),j≤i→(elimTo m p c k j)[i]?=m[i]?
 | 0,i,_=>rfl
 | j+1,i,h=>by
  show ((elimTo m p c k j).set j _)[i]?=_
  rw [List.getElem?_set,if_neg (by omega)]
  exact elimTo_get m p c k j i (by omega)
theorem elimR_len {p:List Rat} {c k i:Nat} {r:List Rat} (h:p.length=r.length):(elimR p c k i r).length=r.length:=by
 unfold elimR;split
 ·rfl
 ·exact subRow_len _ _ _ h
theorem elimTo_pivot (m:List (List Rat)) (p:List Rat) (c k:Nat):∀ j,(elimTo m p c k j)[k]?=m[k]?
 | 0=>rfl
 | j+1=>by
  show ((elimTo m p c k j).set j _)[k]?=_
  by_cases h:j=k
  ·subst h
   rw [List.getElem?_set,if_pos rfl]
   have e:=elimTo_get m p c j j j (Nat.le_refl _)
   by_cases hl:j<m.length
   ·rw [if_pos (by rw [elimTo_len];exact hl)]
    unfold elimR
    rw [if_pos (.inl rfl)]
    rw [← e]
    exact (get_rowQ (by rw [elimTo_len];exact hl)).symm
   ·rw [if_neg (by rw [elimTo_len];exact hl),List.getElem?_eq_none (by omega)]
  ·rw [List.getElem?_set,if_neg h]
   exact elimTo_pivot m p c k j
structure RedSt where
 m:List (List Rat)
 lead:List Nat
 det:Rat
def stepR (c:Nat) (s:RedSt):RedSt :=
 let k:=s.lead.length
 let a:=findP s.m c (s.m.length-k) k
 if a=s.m.length then ⟨s.m,s.lead,0⟩
 else
  let m1:=if a=k then s.m else swp s.m k a
  let d1:=if a=k then s.det else -s.det
  let f:=elQ m1 k c
  let m2:=m1.set k (divRow (rowQ m1 k) f)
  ⟨elimTo m2 (divRow (rowQ m1 k) f) c k m2.length,s.lead++[c],d1*f⟩
def redTo (m:List (List Rat)):Nat→RedSt
 | 0=>⟨m,[],1⟩
 | c+1=>stepR c (redTo m c)
def Rect (C:Nat) (m:List (List Rat)):Prop:=∀ r∈m,r.length=C
theorem Rect.get {C:Nat} {m:List (List Rat)} (h:Rect C m) {i:Nat} {r:List Rat} (hr:m[i]?=some r):r.length=C:=h r (List.mem_of_getElem? hr)
theorem Rect.set {C:Nat} {m:List (List Rat)} (h:Rect C m) (i:Nat) {r:List Rat} (hr:r.length=C):Rect C (m.set i r):=fun q hq=>by
 rcases List.mem_or_eq_of_mem_set hq with hq | rfl
 ·exact h q hq
 ·exact hr
theorem Rect.swp {C:Nat} {m:List (List Rat)} (h:Rect C m) (i j:Nat):Rect C (swp m i j):=by
 unfold Proofs.YtjlkkofmojgipaaGreatDoor.swp
 split
 ·rename_i a b ha hb
  exact (h.set i (h.get hb)).set j (h.get ha)
 ·exact h
theorem Rect.elim {C:Nat} {m:List (List Rat)} (h:Rect C m) {p:List Rat} (hp:p.length=C) (c k:Nat):∀ j,j≤m.length→Rect C (elimTo m p c k j)
 | 0,_=>h
 | j+1,hj=>by
  have ih:=Rect.elim h hp c k j (by omega)
  have hr:=ih.get (get_rowQ (m:=elimTo m p c k j) (i:=j) (by rw [elimTo_len];omega))
  exact ih.set j (by rw [elimR_len (by rw [hp,hr])];exact hr)
theorem stepR_shape {C c : Nat} {s : RedSt} (h : Rect C s.m) (hk : s.lead.length ≤ s.m.length) : Rect C (stepR c s).m ∧ (stepR c s).m.length = s.m.length ∧ (stepR c s).lead.length ≤ s.m.length := by
  unfold stepR
  simp only
  by_cases ha : findP s.m c (s.m.length - s.lead.length) s.lead.length = s.m.length
  · rw [if_pos ha]; exact ⟨h, rfl, hk⟩
  · rw [if_neg ha]
    have hm1 : ∀ a, Rect C (if a = s.lead.length then s.m else Proofs.YtjlkkofmojgipaaGreatDoor.swp s.m s.lead.length a) ∧ (if a = s.lead.length then s.m else Proofs.YtjlkkofmojgipaaGreatDoor.swp s.m s.lead.length a).length = s.m.length := by
      intro a; split
      · exact ⟨h, rfl⟩
      · exact ⟨h.swp _ _, swp_length _ _ _⟩
    have hfl : ∀ f a, findP s.m c f a ≤ a + f := by
      intro f
      induction f with
      | zero => intro a; exact Nat.le_refl _
      | succ f ih => intro a; unfold findP; split
                     · have := ih (a + 1); omega
                     · omega
    have hlt : s.lead.length < s.m.length := by
      false_or_by_contra
      rename_i hn
      have e : s.m.length - s.lead.length = 0 := by omega
      rw [e] at ha
      exact ha (by show s.lead.length = _; omega)
    generalize findP s.m c (s.m.length - s.lead.length) s.lead.length = a at *
    obtain ⟨r1, r2⟩ := hm1 a
    generalize (if a = s.lead.length then s.m else Proofs.YtjlkkofmojgipaaGreatDoor.swp s.m s.lead.length a) = m1 at *
    have hr := r1.get (get_rowQ (m := m1) (i := s.lead.length) (by omega))
    have hd : (divRow (rowQ m1 s.lead.length) (elQ m1 s.lead.length c)).length = C := by rw [divRow_len, hr]
    refine ⟨(r1.set _ hd).elim hd c _ _ (Nat.le_refl _), by rw [elimTo_len, List.length_set, r2], by rw [List.length_append]; simp; omega⟩
theorem redTo_shape {C:Nat} {m:List (List Rat)} (h:Rect C m):∀ c,Rect C (redTo m c).m∧(redTo m c).m.length=m.length∧(redTo m c).lead.length≤m.length
 | 0=>⟨h,rfl,Nat.zero_le _⟩
 | c+1=>by
  obtain ⟨h1,h2,h3⟩:=redTo_shape h c
  obtain ⟨k1,k2,k3⟩:=stepR_shape (c:=c) h1 (by omega)
  exact ⟨k1,by show (stepR c (redTo m c)).m.length=_;omega,by show (stepR c (redTo m c)).lead.length≤_;omega⟩
def AllRS (K:Nat) (m:List (List Rat)):Prop:=∀ r∈m,∀ x∈r,RS K x
theorem AllRS.get {K:Nat} {m:List (List Rat)} (h:AllRS K m) {i j:Nat} {r:List Rat} {x:Rat} (hr:m[i]?=some r) (hx:r[j]?=some x):RS K x:=h r (List.mem_of_getElem? hr) x (List.mem_of_getElem? hx)
theorem AllRS.swp {K:Nat} {m:List (List Rat)} (h:AllRS K m) (i j:Nat):AllRS K (Proofs.YtjlkkofmojgipaaGreatDoor.swp m i j):=by
 unfold Proofs.YtjlkkofmojgipaaGreatDoor.swp
 split
 ·rename_i a b ha hb
  intro r hr x hx
  rcases List.mem_or_eq_of_mem_set hr with hr | rfl
  ·rcases List.mem_or_eq_of_mem_set hr with hr | rfl
   ·exact h r hr x hx
   ·exact h _ (List.mem_of_getElem? hb) x hx
  ·exact h _ (List.mem_of_getElem? ha) x hx
 ·exact h
theorem mkRat_size (n:Int) (d:Nat) (hd:d≠0):(intB (mkRat n d).num).size≤(intB n).size∧(numB (mkRat n d).den).size≤(numB d).size:=by
 obtain ⟨h1,h2⟩:=mkRat_parts n d hd
 rw [h1,h2]
 exact ⟨ediv_size _ _,num_le_mono (Nat.div_le_self _ _)⟩
theorem mul_RS {K L:Nat} {x y:Rat} (hx:RS K x) (hy:RS L y):RS (K+L+1) (x*y):=by
 have h:=mkRat_size (x.num*y.num) (x.den*y.den) (Nat.mul_ne_zero x.den_nz y.den_nz)
 rw [← Rat.mul_def'] at h
 have h1:=int_mul_size x.num y.num
 have h2:=num_mul_size x.den y.den
 have a1:=hx.1;have a2:=hx.2;have a3:=hy.1;have a4:=hy.2
 exact ⟨by omega,by omega⟩
theorem inv_RS {K:Nat} {y:Rat} (hy:RS K y) (h0:y≠0):RS (K+1) y⁻¹:=by
 rw [Rat.inv_def]
 have hn:y.num≠0:=fun h=>h0 (Rat.num_eq_zero.1 h)
 have a3:=hy.1;have a4:=hy.2
 have hs1:=intB_size_le (-(y.den:Int))
 have hs2:=natAbs_le y.num
 rw [Int.natAbs_neg] at hs1
 have e2:(y.den:Int).natAbs=y.den:=rfl
 rw [e2] at hs1
 by_cases h:y.num<0
 ·have e:y.num=-(y.num.natAbs:Int):=by omega
  rw [e,divInt_neg _ _ (by omega)]
  have:=mkRat_size (-(y.den:Int)) y.num.natAbs (by omega)
  exact ⟨by omega,by omega⟩
 ·have e:y.num=(y.num.natAbs:Int):=by omega
  rw [e,divInt_pos]
  have:=mkRat_size (y.den:Int) y.num.natAbs (by omega)
  rw [eb] at this
  exact ⟨by omega,by omega⟩
theorem div_RS {K L:Nat} {x y:Rat} (hx:RS K x) (hy:RS L y) (h0:y≠0):RS (K+L+2) (x / y):=by
 rw [Rat.div_def]
 exact (mul_RS hx (inv_RS hy h0)).mono (by omega)
theorem neg_RS {K:Nat} {y:Rat} (hy:RS K y):RS (K+1) (-y):=by
 refine ⟨?_,by show (numB y.den).size≤_;have:=hy.2;omega⟩
 have h1:=intB_size_le (-y.num)
 have h2:=natAbs_le y.num
 rw [Int.natAbs_neg] at h1
 rw [Rat.neg_num]
 have:=hy.1
 omega
end Go.Proofs.YtjlkkofmojgipaaGreatDoor
namespace Go.Proofs.YtjlkkofmojgipaaGreatDoor
set_option linter.unusedVariables false
section
variable {P:Program} {ops:Array Oper} {Q:Exit→Act→World→Prop} {md:Region.Mode} {S:World→Prop} {z:Nat}
def anyE (P:Program) (md:Region.Mode) (ops:Array Oper) (Q:Exit→Act→World→Prop) (S:World→Prop) (z:Nat):Nat→Array Bool→Act→World→Prop
 | 0,l,a,w=>Region.ready md ops l=[]∧Q .normal a w
 | f+1,l,a,w=>(Region.ready md ops l=[]→Q .normal a w) ∧
  ∀ i∈Region.ready md ops l,wpOp P ops Q i (fun b u=>((l.setIfInBounds i true).getD z false=false→S u)∧anyE P md ops Q S z f (l.setIfInBounds i true) b u) a w
theorem anyE_any:∀ (f:Nat) (l:Array Bool) (a:Act) (w:World),anyE P md ops Q S z f l a w→wpAny P md ops Q f l a w
 | 0,_,_,_,h=>h
 | f+1,l,_,_,h=>⟨h.1,fun i hi=>wpOp_mono (fun b u hb=>anyE_any f (l.setIfInBounds i true) b u hb.2) (h.2 i hi)⟩
def Closed (md:Region.Mode) (ops:Array Oper) (l:Array Bool):Prop:=∀ j o,ops[j]?=some o→l.getD j false=true→∀ e∈o.after,Region.binds md e=true→l.getD e.on false=true
def closedB (md:Region.Mode) (ops:Array Oper) (l:Array Bool):Bool:=(List.range ops.size).all fun j=>!(l.getD j false) || match ops[j]? with
 | some o=>o.after.all fun e=>!(Region.binds md e) || l.getD e.on false
 | none=>true
theorem closedB_spec {l:Array Bool} (h:closedB md ops l=true):Closed md ops l:=by
 intro j o ho hl e he hb
 have h1:=List.all_eq_true.1 h j (List.mem_range.2 (Array.getElem?_eq_some_iff.1 ho).1)
 simp only [ho,hl,Bool.not_true,Bool.false_or] at h1
 have h2:=Array.all_eq_true_iff_forall_mem.1 h1 e he
 simpa [hb] using h2
theorem Closed.step {l:Array Bool} (h:Closed md ops l) {j:Nat} (hj:j∈Region.ready md ops l):Closed md ops (l.setIfInBounds j true):=by
 intro k o ho hl e he hb
 by_cases hk:j=k
 ·subst hk
  obtain ⟨-,o',ho',hall⟩:=mem_ready.1 hj
  obtain rfl:o'=o:=Option.some.inj (ho'.symm.trans ho)
  exact getD_set_true (hall e he hb)
 ·rw [getD_set_ne false hk] at hl
  exact getD_set_true (h k o ho hl e he hb)
def reachB (md:Region.Mode) (ops:Array Oper):Nat→Nat→Nat→Bool
 | 0,_,_=>false
 | f+1,a,i=>match ops[a]? with
  | some o=>o.after.any fun e=>Region.binds md e && (e.on == i || reachB md ops f e.on i)
  | none=>false
theorem reach_listed {l:Array Bool} (hc:Closed md ops l) {i:Nat}:∀ (f a:Nat) (o:Oper),ops[a]?=some o→reachB md ops f a i=true→(∀ e∈o.after,Region.binds md e=true→l.getD e.on false=true)→l.getD i false=true
 | 0,_,_,_,h,_=>by cases h
 | f+1,a,o,ho,h,hall=>by
  simp only [reachB,ho] at h
  obtain ⟨e,he,hb⟩:=Array.any_eq_true'.1 h
  simp only [Bool.and_eq_true,Bool.or_eq_true,beq_iff_eq] at hb
  have hl:=hall e he hb.1
  rcases hb.2 with h1 | h1
  ·rw [← h1];exact hl
  ·cases hq:ops[e.on]? with
   | none=>cases f with
    | zero=>cases h1
    | succ f=>simp only [reachB,hq] at h1;cases h1
   | some p=>exact reach_listed hc f e.on p hq h1 fun d hd hbd=>hc e.on p hq hl d hd hbd
theorem set_unlisted {l:Array Bool} {i:Nat} (h:(l.setIfInBounds i true).getD z false=false):l.getD z false=false:=by
 cases e:l.getD z false
 ·rfl
 ·rw [getD_set_true e] at h;cases h
theorem not_listed {l:Array Bool} {i:Nat} (ui:l.getD i true=false):l.getD i false=false:=by
 by_cases hs:i<l.size
 ·simp [hs] at ui ⊢;exact ui
 ·simp [Array.getElem?_eq_none (Nat.le_of_not_lt hs)]
theorem anyE_first {i n:Nat} {oi:Oper} {v:Value} (hi:ops[i]?=some oi) (hsel:∀ (j:Nat) (o:Oper) cs b,ops[j]?=some o→o.op≠.select cs b)
  (hQ:∀ c a w,Q (.panic c) (a.put oi.dst v) w→Q (.panic c) a w) (hz:reachB md ops n z i=true) (f:Nat) :
  ∀ (l:Array Bool) (a:Act) (w:World),
   (∀ j oj,ops[j]?=some oj→j≠i→l.getD j true=false→(∀ e∈oj.after,Region.binds md e=true→e.on≠i)→oi.apart ops oj=true) →
   Closed md ops l→i∈Region.ready md ops l→YieldsIf P ops S oi v a→S w →
   anyE P md ops Q S z f (l.setIfInBounds i true) (a.put oi.dst v) w→anyE P md ops Q S z (f+1) l a w:=by
 induction f with
 | zero =>
  intro l a w _ _ hr hy hS H
  refine ⟨(fun e=>by rw [e] at hr;cases hr),fun j hj=>?_⟩
  by_cases e:j=i
  ·rw [e];exact hy.wpOp hi hS ⟨fun _=>hS,H⟩
  ·have:=ready_mono hj e
   rw [H.1] at this
   cases this
 | succ f ih =>
  intro l a w hfree hcl hr hy hS H
  refine ⟨(fun e=>by rw [e] at hr;cases hr),fun j hj=>?_⟩
  by_cases e:j=i
  ·rw [e];exact hy.wpOp hi hS ⟨fun _=>hS,H⟩
  have hji:i≠j:=fun x=>e x.symm
  have un:=(mem_ready.1 hj).1
  obtain ⟨oj,hoj,hall⟩:=(mem_ready.1 hj).2
  have ui:=(mem_ready.1 hr).1
  have uf:l.getD i false=true→False:=fun hc=>by rw [not_listed ui] at hc;cases hc
  have hjz:j≠z:=fun hz'=>by
   subst hz'
   exact uf (reach_listed hcl n j oj hoj hz hall)
  have hiz:i≠z:=fun hz'=>by
   subst hz'
   obtain ⟨o2,ho2,hall2⟩:=(mem_ready.1 hr).2
   exact uf (reach_listed hcl n i o2 ho2 hz hall2)
  have hzl:l.getD z false=false:=by
   cases e2:l.getD z false
   ·rfl
   ·exfalso
    cases hq:ops[z]? with
    | none=>cases n with
     | zero=>cases hz
     | succ n=>simp only [reachB,hq] at hz;cases hz
    | some o3=>exact uf (reach_listed hcl n z o3 hq hz fun d hd hbd=>hcl z o3 hq e2 d hd hbd)
  have hno:∀ d∈oj.after,Region.binds md d=true→d.on≠i:=fun d hd hb hdi=>uf (by have:=hall d hd hb;rwa [hdi] at this)
  have step:=wpOp_putIf hoj (hfree j oj hoj e un hno) (fun cs b=>hsel i oi cs b hi) (fun cs b=>hsel j oj cs b hoj) hQ hy (H.2 j (ready_mono hj e))
  refine wpOp_mono (fun b u hb=>?_) step
  obtain ⟨hy2,hS2,hrest⟩:=hb
  have hSu:S u:=hS2 (by rw [getD_set_ne false hjz,getD_set_ne false hiz];exact hzl)
  refine ⟨fun _=>hSu,ih (l.setIfInBounds j true) b u (fun k ok hk hki hun hn=>?_) (hcl.step hj) (ready_mono hr hji) hy2 hSu ?_⟩
  ·refine hfree k ok hk hki ?_ hn
   by_cases hjk:j=k
   ·rw [← hjk];exact un
   ·rw [getD_set_ne true hjk] at hun;exact hun
  ·rw [Array.setIfInBounds_comm _ _ e];exact hrest
theorem anyE_firstW {i:Nat} {oi:Oper} {v:Value} (hi:ops[i]?=some oi) (hsel:∀ (j:Nat) (o:Oper) cs b,ops[j]?=some o→o.op≠.select cs b)
  (hQ:∀ c a w,Q (.panic c) (a.put oi.dst v) w→Q (.panic c) a w) (hiz:i≠z) (f:Nat) :
  ∀ (l:Array Bool) (a:Act) (w:World),
   (∀ j oj,ops[j]?=some oj→j≠i→l.getD j true=false→(∀ e∈oj.after,Region.binds md e=true→e.on≠i)→oi.apart ops oj=true) →
   i∈Region.ready md ops l→Yields P ops oi v a→(l.getD z false=false→S w) →
   anyE P md ops Q S z f (l.setIfInBounds i true) (a.put oi.dst v) w→anyE P md ops Q S z (f+1) l a w:=by
 induction f with
 | zero =>
  intro l a w _ hr hy hS H
  refine ⟨(fun e=>by rw [e] at hr;cases hr),fun j hj=>?_⟩
  by_cases e:j=i
  ·rw [e];exact hy.wpOp hi ⟨fun h=>hS (set_unlisted h),H⟩
  ·have:=ready_mono hj e
   rw [H.1] at this
   cases this
 | succ f ih =>
  intro l a w hfree hr hy hS H
  refine ⟨(fun e=>by rw [e] at hr;cases hr),fun j hj=>?_⟩
  by_cases e:j=i
  ·rw [e];exact hy.wpOp hi ⟨fun h=>hS (set_unlisted h),H⟩
  have hji:i≠j:=fun x=>e x.symm
  have un:=(mem_ready.1 hj).1
  obtain ⟨oj,hoj,hall⟩:=(mem_ready.1 hj).2
  have ui:=(mem_ready.1 hr).1
  have uf:l.getD i false=true→False:=fun hc=>by rw [not_listed ui] at hc;cases hc
  have hno:∀ d∈oj.after,Region.binds md d=true→d.on≠i:=fun d hd hb hdi=>uf (by have:=hall d hd hb;rwa [hdi] at this)
  have step:=wpOp_put hoj (hfree j oj hoj e un hno) (fun cs b=>hsel i oi cs b hi) (fun cs b=>hsel j oj cs b hoj) hQ hy (H.2 j (ready_mono hj e))
  refine wpOp_mono (fun b u hb=>?_) step
  obtain ⟨hy2,hS2,hrest⟩:=hb
  have hSu:(l.setIfInBounds j true).getD z false=false→S u:=fun h=>hS2 (by rw [Array.setIfInBounds_comm _ _ hji,getD_set_ne false hiz];exact h)
  refine ⟨hSu,ih (l.setIfInBounds j true) b u (fun k ok hk hki hun hn=>?_) (ready_mono hr hji) hy2 hSu ?_⟩
  ·refine hfree k ok hk hki ?_ hn
   by_cases hjk:j=k
   ·rw [← hjk];exact un
   ·rw [getD_set_ne true hjk] at hun;exact hun
  ·rw [Array.setIfInBounds_comm _ _ e];exact hrest
theorem anyE_take (i:Nat) {oi:Oper} {v:Value} {f:Nat} {l:Array Bool} {a:Act} {w:World} (hi:ops[i]?=some oi)
  (hs:Region.noSelect ops=true) (hc:closedB md ops l=true) (hf:Region.free md ops l i=true) (hr:(Region.ready md ops l).contains i=true) (hz:reachB md ops 40 z i=true)
  (hQ:∀ c a w,Q (.panic c) (a.put oi.dst v) w→Q (.panic c) a w) (hy:YieldsIf P ops S oi v a) (hS:S w)
  (h:anyE P md ops Q S z f (l.setIfInBounds i true) (a.put oi.dst v) w):anyE P md ops Q S z (f+1) l a w :=
 anyE_first hi (Region.noSelect_spec hs) hQ hz f l a w (Region.free_spec hi hf) (closedB_spec hc) (by simpa using hr) hy hS h
theorem anyE_takeW (i:Nat) {oi:Oper} {v:Value} {f:Nat} {l:Array Bool} {a:Act} {w:World} (hi:ops[i]?=some oi)
  (hs:Region.noSelect ops=true) (hf:Region.free md ops l i=true) (hr:(Region.ready md ops l).contains i=true) (hz:i≠z)
  (hQ:∀ c a w,Q (.panic c) (a.put oi.dst v) w→Q (.panic c) a w) (hy:Yields P ops oi v a) (hS:S w)
  (h:anyE P md ops Q S z f (l.setIfInBounds i true) (a.put oi.dst v) w):anyE P md ops Q S z (f+1) l a w :=
 anyE_firstW hi (Region.noSelect_spec hs) hQ hz f l a w (Region.free_spec hi hf) (by simpa using hr) hy (fun _=>hS) h
theorem anyE_step (i:Nat) {o:Oper} {f:Nat} {l:Array Bool} {a:Act} {w:World} (hr:Region.ready md ops l=[i]) (ho:ops[i]?=some o)
  (h:∀ K:Act→World→Prop,Shut (∀ b u,S u→(S u→anyE P md ops Q S z f (l.setIfInBounds i true) b u)→K b u)→if Region.wanted o (yielded ops a.tmps)=true then Oper.wp P o a w K Q else K (a.put o.dst undef) w):anyE P md ops Q S z (f+1) l a w:=by
 refine ⟨(fun e=>by rw [hr] at e;cases e),fun j hj=>?_⟩
 obtain rfl:j=i:=by rw [hr] at hj;simpa using hj
 exact wpOp_step ho fun K hK=>h K fun b u hS hrest=>hK b u ⟨fun _=>hS,hrest hS⟩
theorem anyE_stepZ (i:Nat) {o:Oper} {f:Nat} {l:Array Bool} {a:Act} {w:World} (hr:Region.ready md ops l=[i]) (hz:(l.setIfInBounds i true).getD z false=true) (ho:ops[i]?=some o)
  (h:∀ K:Act→World→Prop,Shut (∀ b u,anyE P md ops Q S z f (l.setIfInBounds i true) b u→K b u)→if Region.wanted o (yielded ops a.tmps)=true then Oper.wp P o a w K Q else K (a.put o.dst undef) w):anyE P md ops Q S z (f+1) l a w:=by
 refine ⟨(fun e=>by rw [hr] at e;cases e),fun j hj=>?_⟩
 obtain rfl:j=i:=by rw [hr] at hj;simpa using hj
 exact wpOp_step ho fun K hK=>h K fun b u hrest=>hK b u ⟨(fun e=>by rw [hz] at e;cases e),hrest⟩
theorem anyE_last (i:Nat) {o:Oper} {f:Nat} {l:Array Bool} {a:Act} {w:World} (hr:Region.ready md ops l=[i]) (hr2:Region.ready md ops (l.setIfInBounds i true)=[]) (hz:(l.setIfInBounds i true).getD z false=true) (ho:ops[i]?=some o)
  (h:∀ K:Act→World→Prop,Shut (∀ b u,Q .normal b u→K b u)→if Region.wanted o (yielded ops a.tmps)=true then Oper.wp P o a w K Q else K (a.put o.dst undef) w):anyE P md ops Q S z (f+1) l a w:=by
 refine ⟨(fun e=>by rw [hr] at e;cases e),fun j hj=>?_⟩
 obtain rfl:j=i:=by rw [hr] at hj;simpa using hj
 refine wpOp_step ho fun K hK=>h K fun b u hq=>hK b u ⟨(fun e=>by rw [hz] at e;cases e),?_⟩
 cases f with
 | zero=>exact ⟨hr2,hq⟩
 | succ f=>exact ⟨fun _=>hq,by rw [hr2];simp⟩
theorem region_anyE (S:World→Prop) (z:Nat) {id:Nat} {a:Act} {w:World} (hm:P.follows .mixedOrders=true) (hS:S w.drew)
  (h:S w.drew→anyE P .any ops Q S z ops.size (Array.replicate ops.size false) a w.drew):(Code.region id ops true).wp P Q a w :=
 wp_region_any hm (anyE_any _ _ _ _ (h hS))
end
end Go.Proofs.YtjlkkofmojgipaaGreatDoor
