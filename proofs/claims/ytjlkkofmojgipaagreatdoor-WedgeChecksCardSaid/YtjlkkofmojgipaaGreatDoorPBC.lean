import Derived.Test.YtjlkkofmojgipaaGreatDoorPAX
namespace Go.Proofs.YtjlkkofmojgipaaGreatDoor
set_option linter.unusedVariables false
set_option linter.unusedSimpArgs false
open Go.RowKit
theorem Build.numsB {w:World} {base:Nat} {e:TypeId} {v:Value} {xs:List Int} (h:Build w base e 1 v numC xs):w.ownsRow base e 1 v xs.length (xs.map fun x=>Value.string (intB x)):=by
 obtain ⟨us,h1,h2,h3,h4⟩:=h
 have:us=xs.map fun x=>[Value.string (intB x)]:=by
  apply List.ext_getElem?
  intro i
  rw [List.getElem?_map]
  by_cases hi:i<xs.length
  ·have hi2:i<us.length:=by omega
   have:=(h4 i us[i] xs[i] (by simp [hi2]) (by simp [hi])).now
   simp only [numC] at this
   simp [hi,hi2,this]
  ·rw [List.getElem?_eq_none (by omega),List.getElem?_eq_none (by omega)];rfl
 rw [this,flatten_one (fun x=>Value.string (intB x))] at h3
 exact h3
theorem RowB.of_ownsW {w:World} {base:Nat} {e:TypeId} {g cap:Nat} {xs:List Int} (h:w.ownsRow base e 1 (.slice (some ⟨g,0,none⟩) xs.length cap) xs.length (xs.map fun x=>Value.string (intB x))):RowB w g 0 xs∧base≤g∧xs.length≤cap∧cap≤maxLen:=by
 have hc:=h.cells (g:=g) (by simp [Value.ownBlock])
 have hf:=fun j=>h.frozenAt j
 rcases h.2 with ⟨hv,_⟩ | ⟨g',cap',cur,hv,hb,hg,h1,h2,h3,h4⟩
 ·simp at hv
 ·simp only [Value.slice.injEq,Option.some.injEq,Addr.mk.injEq] at hv
  obtain ⟨⟨rfl,-,-⟩,-,rfl⟩:=hv
  refine ⟨⟨(Array.getElem?_eq_some_iff.1 hg).1,fun j x hx=>?_,fun j=>?_⟩,hb,h1,h2⟩
  ·have:=hc j (.string (intB x)) (by rw [List.getElem?_map,hx];rfl)
   rw [show (⟨g,0,none⟩:Addr).add j=⟨g,0+j,none⟩ by unfold Addr.add;split <;> simp_all] at this
   exact this
  ·exact hf j
theorem infoLine:(Tryz.prog.info? 119).map (fun i=>(i.zero,i.size,i.bytes))=some (some (.slice none 0 0),1,24):=by kernel_rfl
def tagW (t:Nat×Nat×Nat) (n:Nat):Value:=.slice (some ⟨t.1,t.2.1,none⟩) n t.2.2
def tagWs (tags:List (Nat×Nat×Nat)) (m:List (List Int)):List Value:=List.zipWith (fun t r=>tagW t r.length) tags m
structure LinesB (w:World) (ob base:Nat) (v:Value) (tags:List (Nat×Nat×Nat)) (m:List (List Int)):Prop where
 len:tags.length=m.length
 own:w.ownsRow ob 119 1 v m.length (tagWs tags m)
 row:∀ (i:Nat) t r,tags[i]?=some t→m[i]?=some r→r.length≤t.2.2∧t.2.2≤maxLen∧RowB w t.1 t.2.1 r∧base≤t.1∧v.ownBlock≠some t.1
 nodup:(tags.map (·.1)).Nodup
theorem LinesB.nil (w:World) (ob base:Nat):LinesB w ob base (.slice none 0 0) [] [] :=
 ⟨rfl,World.ownsRow_nil _ _ _ _,by intro i t r h;simp at h,by simp⟩
theorem LinesB.ext {w w':World} {ob base:Nat} {v:Value} {tags:List (Nat×Nat×Nat)} {m:List (List Int)} (h:LinesB w ob base v tags m) (he:Ext w w'):LinesB w' ob base v tags m :=
 ⟨h.len,owns_ext h.own he,fun i t r ht hr=>by
  obtain ⟨h1,h2,h3,h4,h5⟩:=h.row i t r ht hr
  exact ⟨h1,h2,h3.ext he,h4,h5⟩,h.nodup⟩
theorem LinesB.snoc {w w':World} {ob base:Nat} {v v':Value} {tags:List (Nat×Nat×Nat)} {m:List (List Int)} (h:LinesB w ob base v tags m) (t:Nat×Nat×Nat) (r:List Int) (hr1:r.length≤t.2.2) (hr2:t.2.2≤maxLen) (hR:RowB w t.1 t.2.1 r) (hb:base≤t.1) (hv:v.ownBlock≠some t.1) (hn:t.1∉tags.map (·.1))
  (hown:w'.ownsRow ob 119 1 v' (m.length+1) (tagWs tags m++[tagW t r.length])) (hg:w.grownBy w' v.ownBlock) (hat:v'.ownBlock=v.ownBlock∨∃ b,v'.ownBlock=some b∧w.heap.size≤b) :
  LinesB w' ob base v' (tags++[t]) (m++[r]):=by
 have hkeep:∀ (s:Nat×Nat×Nat) q,RowB w s.1 s.2.1 q→v.ownBlock≠some s.1→RowB w' s.1 s.2.1 q∧v'.ownBlock≠some s.1:=fun s q hs hvs=>by
  refine ⟨hs.same hg.size (hg.block s.1 hs.lt hvs.symm),fun e=>?_⟩
  rcases hat with e2 | ⟨b,e2,e3⟩
  ·exact hvs (e2.symm.trans e)
  ·rw [e2] at e;cases e;have:=hs.lt;omega
 refine ⟨by simp [h.len],?_,fun i s q hs hq=>?_,?_⟩
 ·have e:tagWs (tags++[t]) (m++[r])=tagWs tags m++[tagW t r.length]:=by
   unfold tagWs;rw [List.zipWith_append h.len];rfl
  rw [e,List.length_append];exact hown
 ·by_cases hi:i<tags.length
  ·rw [List.getElem?_append_left hi] at hs
   rw [List.getElem?_append_left (by rw [← h.len];exact hi)] at hq
   obtain ⟨h1,h2,h3,h4,h5⟩:=h.row i s q hs hq
   obtain ⟨k1,k2⟩:=hkeep s q h3 h5
   exact ⟨h1,h2,k1,h4,k2⟩
  ·rw [List.getElem?_append_right (by omega)] at hs
   rw [List.getElem?_append_right (by rw [← h.len];omega)] at hq
   have e1:i-tags.length=0:=by have:=(List.getElem?_eq_some_iff.1 hs).1;simp at this;omega
   have e2:i-m.length=0:=by rw [← h.len];exact e1
   rw [e1] at hs
   rw [e2] at hq
   simp only [List.getElem?_cons_zero,Option.some.injEq] at hs hq
   subst hs;subst hq
   obtain ⟨k1,k2⟩:=hkeep t r hR hv
   exact ⟨hr1,hr2,k1,hb,k2⟩
 ·rw [List.map_append,List.nodup_append]
  refine ⟨h.nodup,by simp,?_⟩
  intro a ha b hb2 e
  simp only [List.map_cons,List.map_nil,List.mem_singleton] at hb2
  subst e;subst hb2
  exact hn ha
theorem LinesB.mat {w:World} {ob base:Nat} {g cap:Nat} {tags:List (Nat×Nat×Nat)} {m:List (List Int)} (h:LinesB w ob base (.slice (some ⟨g,0,none⟩) m.length cap) tags m) (hob:base≤ob) :
  MatB w g tags m∧m.length≤cap∧cap≤maxLen∧∀ b,blocksOf g tags b→base≤b:=by
 have hc:=h.own.cells (g:=g) (by simp [Value.ownBlock])
 have hf:=fun j=>h.own.frozenAt j
 rcases h.own.2 with ⟨hv,_⟩ | ⟨g',cap',cur,hv,hb,hg,h1,h2,h3,h4⟩
 ·simp at hv
 ·simp only [Value.slice.injEq,Option.some.injEq,Addr.mk.injEq] at hv
  obtain ⟨⟨rfl,-,-⟩,-,rfl⟩:=hv
  refine ⟨⟨h.len,(Array.getElem?_eq_some_iff.1 hg).1,fun j=>hf j,fun i t r ht hr=>?_,?_⟩,h1,h2,fun b hb2=>?_⟩
  ·obtain ⟨k1,k2,k3,k4,k5⟩:=h.row i t r ht hr
   refine ⟨?_,k1,k2,k3⟩
   have:=hc i (tagW t r.length) (by unfold tagWs;rw [List.getElem?_zipWith,ht,hr])
   rw [show (⟨g,0,none⟩:Addr).add i=⟨g,i,none⟩ by unfold Addr.add;split <;> simp_all] at this
   exact this
  ·rw [List.nodup_cons]
   refine ⟨fun hm=>?_,h.nodup⟩
   obtain ⟨t,ht,rfl⟩:=List.mem_map.1 hm
   obtain ⟨i,hi⟩:=List.getElem?_of_mem ht
   have hl:i<m.length:=by rw [← h.len];exact (List.getElem?_eq_some_iff.1 hi).1
   exact (h.row i t m[i] hi (List.getElem?_eq_getElem hl)).2.2.2.2 rfl
  ·rcases List.mem_cons.1 hb2 with rfl | hb2
   ·exact Nat.le_trans hob hb
   ·obtain ⟨t,ht,rfl⟩:=List.mem_map.1 hb2
    obtain ⟨i,hi⟩:=List.getElem?_of_mem ht
    have hl:i<m.length:=by rw [← h.len];exact (List.getElem?_eq_some_iff.1 hi).1
    exact (h.row i t m[i] hi (List.getElem?_eq_getElem hl)).2.2.2.1
theorem wpList_append_line (w:World) {ops:Array Oper} {rest:List Oper} {o:Oper} {a:Act} {Q:Exit→Act→World→Prop} (hgd:o.guard=none)
  (s x:Operand) (ho:o.op=Op.call { callee:=Callee.builtin Builtin.append,args:=#[s,x],argTypes:=#[116,116] }) (ob base:Nat)
  (v:Value) (tags:List (Nat×Nat×Nat)) (m:List (List Int)) (t:Nat×Nat×Nat) (r:List Int) (u:Array Value) (T:TypeId) (hs:a.eval s=v) (hB:LinesB w ob base v tags m)
  (hx:a.eval x=.slice (some ⟨w.heap.size,0,none⟩) 1 1) (hu:u=#[tagW t r.length]) (hr1:r.length≤t.2.2) (hr2:t.2.2≤maxLen) (hR:RowB w t.1 t.2.1 r) (hb:base≤t.1) (hv:v.ownBlock≠some t.1) (hn:t.1∉tags.map (·.1))
  (hlen:m.length<1000000) (hbase:ob≤w.heap.size)
  (h:∀ v' w',LinesB w' ob base v' (tags++[t]) (m++[r])→Below ob w w'→Hid (∃ g c,v'=.slice (some ⟨g,0,none⟩) (m.length+1) c)→wpList Tryz.prog ops Q rest (a.put o.dst v') w') :
  wpList Tryz.prog ops Q (o::rest) a (w.alloc (.cells u T)):=by
 refine wpList_plain hgd fun K hK=>?_
 subst hu
 obtain ⟨i0,hi,hz,hsize,hby⟩:=info_parts infoLine
 have hadd:∀ j,(⟨w.heap.size,0,none⟩:Addr).add j=⟨w.heap.size,j,none⟩:=by intro j;unfold Addr.add;split <;> simp_all
 have hE:Ext w (w.alloc (.cells #[tagW t r.length] T)):=Ext.alloc _ _
 refine wp_append_own_at (w.alloc (.cells #[tagW t r.length] T)) s x 116 ho ob 119 i0 (.slice none 0 0) 1 24 Tryz.underlying116 hi hz hsize hby rfl (by decide) v m.length (tagWs tags m) hs (owns_ext hB.own hE) ⟨w.heap.size,0,none⟩ 1 1 [tagW t r.length] hx rfl ?_ ?_ ?_ ?_ ?_ ?_
 ·intro j q hq
  rw [hadd,World.cell?_alloc_new]
  simpa using hq
 ·intro u hu
  rw [List.mem_singleton.1 hu];rfl
 ·unfold maxLen;omega
 ·omega
 ·simp;omega
 ·intro v' w' hown hgrow _ hat
  have hLB:=(hB.ext hE).snoc t r hr1 hr2 (hR.ext hE) hb hv hn hown hgrow (by
   rcases hat with h1 | h1
   ·exact .inl h1
   ·exact .inr ⟨_,h1,Nat.le_refl _⟩)
  refine hK _ _ (h v' w' hLB ?_ ?_)
  ·have hgw:w.grownBy w' v.ownBlock:=grown_trans (hE.grown _) hgrow
   refine ⟨hgw.os,hgw.tape,hgw.output,hgw.size,fun b hb2=>hgw.block b (by omega) ?_⟩
   intro e
   have:=(hB.own.lt b e.symm).1
   omega
  ·obtain ⟨g,c,hv',-⟩:=owns_shape hown (by omega)
   exact ⟨g,c,hv'⟩
theorem wpList_append_nums (w:World) {ops:Array Oper} {rest:List Oper} {o:Oper} {a:Act} {Q:Exit→Act→World→Prop} (hgd:o.guard=none)
  (s x:Operand) (ho:o.op=Op.call { callee:=Callee.builtin Builtin.append,args:=#[s,x],argTypes:=#[119,119] }) (base:Nat)
  (v:Value) (xs ys:List Int) (hs:a.eval s=v) (hB:Build w base 53 1 v numC xs) (g c n:Nat) (hn:ys.length=n) (hx:a.eval x=.slice (some ⟨g,0,none⟩) n c) (hR:RowB w g 0 ys)
  (hlen:xs.length+n<1000000) (hpos:1≤n) (hbase:base≤w.heap.size)
  (h:∀ w' gr cr,RowB w' gr 0 (xs++ys)→base≤gr→xs.length+n≤cr→cr≤maxLen→Below base w w'→wpList Tryz.prog ops Q rest (a.put o.dst (.slice (some ⟨gr,0,none⟩) (xs.length+n) cr)) w') :
  wpList Tryz.prog ops Q (o::rest) a w:=by
 refine wpList_plain hgd fun K hK=>?_
 subst hn
 obtain ⟨i0,hi,hz,hsize,hby⟩:=info_parts infoBigI
 have hadd:∀ j,(⟨g,0,none⟩:Addr).add j=⟨g,0+j,none⟩:=by intro j;unfold Addr.add;split <;> simp_all
 have hbig:=hB.numsB
 refine wp_append_own_at w s x 119 ho base 53 i0 (.string ⟨#[]⟩) 1 16 Tryz.underlying119 hi hz hsize hby rfl (by decide) v xs.length (xs.map fun x=>Value.string (intB x)) hs hbig ⟨g,0,none⟩ ys.length c (ys.map fun x=>Value.string (intB x)) hx (by simp) ?_ ?_ ?_ ?_ hbase ?_
 ·intro j q hq
  rw [List.getElem?_map] at hq
  cases hy:ys[j]? with
  | none=>rw [hy] at hq;cases hq
  | some y =>
   rw [hy] at hq
   rw [hadd,hR.cell j y hy]
   exact congrArg some (Option.some.inj hq)
 ·intro u hu
  obtain ⟨y,-,rfl⟩:=List.mem_map.1 hu
  rfl
 ·unfold maxLen;omega
 ·omega
 ·intro v' w' hown hgrow _ hat
  have hown2:w'.ownsRow base 53 1 v' (xs++ys).length ((xs++ys).map fun x=>Value.string (intB x)):=by
   rw [List.length_append,List.map_append];exact hown
  obtain ⟨gr,cr,rfl,-⟩:=owns_shape hown2 (by rw [List.length_append];omega)
  obtain ⟨k1,k2,k3,k4⟩:=RowB.of_ownsW hown2
  rw [List.length_append] at k3
  rw [List.length_append]
  refine hK _ _ (h w' gr cr k1 k2 k3 k4 ⟨hgrow.os,hgrow.tape,hgrow.output,hgrow.size,fun b hb=>hgrow.block b (by omega) ?_⟩)
  intro e
  have:=(hbig.lt b e.symm).1
  omega
end Go.Proofs.YtjlkkofmojgipaaGreatDoor
