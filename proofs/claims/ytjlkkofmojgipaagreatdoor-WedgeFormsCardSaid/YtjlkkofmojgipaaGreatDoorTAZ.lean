import Derived.Test.YtjlkkofmojgipaaGreatDoorTAX
import Derived.Test.YtjlkkofmojgipaaGreatDoorTAL
import Derived.Laws.CopyRow
import Derived.Laws.CopyOwn
import Derived.Deep.CutRange
import Derived.Test.YtjlkkofmojgipaaGreatDoorShelfB
namespace Go.Proofs.YtjlkkofmojgipaaGreatDoor
set_option linter.unusedVariables false
set_option linter.unusedSimpArgs false
open Go.RowKit
theorem Build.numsB {w:World} {base:Nat} {e:TypeId} {v:Value} {xs:List Int} (h:Build w base e 1 v numC xs):w.ownsRow base e 1 v xs.length (xs.map fun x=>Value.string (intB x)):=by
 obtain ⟨us,h1,h2,h3,h4⟩:=h
 have:us=xs.map fun x=>[Value.string (intB x)]:=by
  apply List.ext_getElem?
  intro i
  rw [List.getElem?_map]
  by_cases hi:i<xs.length
  ·have hi2:i<us.length:=by omega
   have:=(h4 i us[i] xs[i] (by simp [hi2]) (by simp [hi])).now
   simp only [numC] at this
   simp [hi,hi2,this]
  ·rw [List.getElem?_eq_none (by omega),List.getElem?_eq_none (by omega)];rfl
 rw [this,flatten_one (fun x=>Value.string (intB x))] at h3
 exact h3
theorem RowB.of_ownsW {w:World} {base:Nat} {e:TypeId} {g cap:Nat} {xs:List Int} (h:w.ownsRow base e 1 (.slice (some ⟨g,0,none⟩) xs.length cap) xs.length (xs.map fun x=>Value.string (intB x))):RowB w g 0 xs∧base≤g∧xs.length≤cap∧cap≤maxLen:=by
 have hc:=h.cells (g:=g) (by simp [Value.ownBlock])
 have hf:=fun j=>h.frozenAt j
 rcases h.2 with ⟨hv,_⟩ | ⟨g',cap',cur,hv,hb,hg,h1,h2,h3,h4⟩
 ·simp at hv
 ·simp only [Value.slice.injEq,Option.some.injEq,Addr.mk.injEq] at hv
  obtain ⟨⟨rfl,-,-⟩,-,rfl⟩:=hv
  refine ⟨⟨(Array.getElem?_eq_some_iff.1 hg).1,fun j x hx=>?_,fun j=>?_⟩,hb,h1,h2⟩
  ·have:=hc j (.string (intB x)) (by rw [List.getElem?_map,hx];rfl)
   rw [show (⟨g,0,none⟩:Addr).add j=⟨g,0+j,none⟩ by unfold Addr.add;split <;> simp_all] at this
   exact this
  ·exact hf j
theorem infoLine:(Tryz.prog.info? 119).map (fun i=>(i.zero,i.size,i.bytes))=some (some (.slice none 0 0),1,24):=by kernel_rfl
def tagW (t:Nat×Nat×Nat) (n:Nat):Value:=.slice (some ⟨t.1,t.2.1,none⟩) n t.2.2
def tagWs (tags:List (Nat×Nat×Nat)) (m:List (List Int)):List Value:=List.zipWith (fun t r=>tagW t r.length) tags m
structure LinesB (w:World) (ob base:Nat) (v:Value) (tags:List (Nat×Nat×Nat)) (m:List (List Int)):Prop where
 len:tags.length=m.length
 own:w.ownsRow ob 119 1 v m.length (tagWs tags m)
 row:∀ (i:Nat) t r,tags[i]?=some t→m[i]?=some r→r.length≤t.2.2∧t.2.2≤maxLen∧RowB w t.1 t.2.1 r∧base≤t.1∧v.ownBlock≠some t.1
 nodup:(tags.map (·.1)).Nodup
theorem LinesB.nil (w:World) (ob base:Nat):LinesB w ob base (.slice none 0 0) [] [] :=
 ⟨rfl,World.ownsRow_nil _ _ _ _,by intro i t r h;simp at h,by simp⟩
theorem LinesB.ext {w w':World} {ob base:Nat} {v:Value} {tags:List (Nat×Nat×Nat)} {m:List (List Int)} (h:LinesB w ob base v tags m) (he:Ext w w'):LinesB w' ob base v tags m :=
 ⟨h.len,owns_ext h.own he,fun i t r ht hr=>by
  obtain ⟨h1,h2,h3,h4,h5⟩:=h.row i t r ht hr
  exact ⟨h1,h2,h3.ext he,h4,h5⟩,h.nodup⟩
theorem LinesB.snoc {w w':World} {ob base:Nat} {v v':Value} {tags:List (Nat×Nat×Nat)} {m:List (List Int)} (h:LinesB w ob base v tags m) (t:Nat×Nat×Nat) (r:List Int) (hr1:r.length≤t.2.2) (hr2:t.2.2≤maxLen) (hR:RowB w t.1 t.2.1 r) (hb:base≤t.1) (hv:v.ownBlock≠some t.1) (hn:t.1∉tags.map (·.1))
  (hown:w'.ownsRow ob 119 1 v' (m.length+1) (tagWs tags m++[tagW t r.length])) (hg:w.grownBy w' v.ownBlock) (hat:v'.ownBlock=v.ownBlock∨∃ b,v'.ownBlock=some b∧w.heap.size≤b) :
  LinesB w' ob base v' (tags++[t]) (m++[r]):=by
 have hkeep:∀ (s:Nat×Nat×Nat) q,RowB w s.1 s.2.1 q→v.ownBlock≠some s.1→RowB w' s.1 s.2.1 q∧v'.ownBlock≠some s.1:=fun s q hs hvs=>by
  refine ⟨hs.same hg.size (hg.block s.1 hs.lt hvs.symm),fun e=>?_⟩
  rcases hat with e2 | ⟨b,e2,e3⟩
  ·exact hvs (e2.symm.trans e)
  ·rw [e2] at e;cases e;have:=hs.lt;omega
 refine ⟨by simp [h.len],?_,fun i s q hs hq=>?_,?_⟩
 ·have e:tagWs (tags++[t]) (m++[r])=tagWs tags m++[tagW t r.length]:=by
   unfold tagWs;rw [List.zipWith_append h.len];rfl
  rw [e,List.length_append];exact hown
 ·by_cases hi:i<tags.length
  ·rw [List.getElem?_append_left hi] at hs
   rw [List.getElem?_append_left (by rw [← h.len];exact hi)] at hq
   obtain ⟨h1,h2,h3,h4,h5⟩:=h.row i s q hs hq
   obtain ⟨k1,k2⟩:=hkeep s q h3 h5
   exact ⟨h1,h2,k1,h4,k2⟩
  ·rw [List.getElem?_append_right (by omega)] at hs
   rw [List.getElem?_append_right (by rw [← h.len];omega)] at hq
   have e1:i-tags.length=0:=by have:=(List.getElem?_eq_some_iff.1 hs).1;simp at this;omega
   have e2:i-m.length=0:=by rw [← h.len];exact e1
   rw [e1] at hs
   rw [e2] at hq
   simp only [List.getElem?_cons_zero,Option.some.injEq] at hs hq
   subst hs;subst hq
   obtain ⟨k1,k2⟩:=hkeep t r hR hv
   exact ⟨hr1,hr2,k1,hb,k2⟩
 ·rw [List.map_append,List.nodup_append]
  refine ⟨h.nodup,by simp,?_⟩
  intro a ha b hb2 e
  simp only [List.map_cons,List.map_nil,List.mem_singleton] at hb2
  subst e;subst hb2
  exact hn ha
theorem LinesB.mat {w:World} {ob base:Nat} {g cap:Nat} {tags:List (Nat×Nat×Nat)} {m:List (List Int)} (h:LinesB w ob base (.slice (some ⟨g,0,none⟩) m.length cap) tags m) (hob:base≤ob) :
  MatB w g tags m∧m.length≤cap∧cap≤maxLen∧∀ b,blocksOf g tags b→base≤b:=by
 have hc:=h.own.cells (g:=g) (by simp [Value.ownBlock])
 have hf:=fun j=>h.own.frozenAt j
 rcases h.own.2 with ⟨hv,_⟩ | ⟨g',cap',cur,hv,hb,hg,h1,h2,h3,h4⟩
 ·simp at hv
 ·simp only [Value.slice.injEq,Option.some.injEq,Addr.mk.injEq] at hv
  obtain ⟨⟨rfl,-,-⟩,-,rfl⟩:=hv
  refine ⟨⟨h.len,(Array.getElem?_eq_some_iff.1 hg).1,fun j=>hf j,fun i t r ht hr=>?_,?_⟩,h1,h2,fun b hb2=>?_⟩
  ·obtain ⟨k1,k2,k3,k4,k5⟩:=h.row i t r ht hr
   refine ⟨?_,k1,k2,k3⟩
   have:=hc i (tagW t r.length) (by unfold tagWs;rw [List.getElem?_zipWith,ht,hr])
   rw [show (⟨g,0,none⟩:Addr).add i=⟨g,i,none⟩ by unfold Addr.add;split <;> simp_all] at this
   exact this
  ·rw [List.nodup_cons]
   refine ⟨fun hm=>?_,h.nodup⟩
   obtain ⟨t,ht,rfl⟩:=List.mem_map.1 hm
   obtain ⟨i,hi⟩:=List.getElem?_of_mem ht
   have hl:i<m.length:=by rw [← h.len];exact (List.getElem?_eq_some_iff.1 hi).1
   exact (h.row i t m[i] hi (List.getElem?_eq_getElem hl)).2.2.2.2 rfl
  ·rcases List.mem_cons.1 hb2 with rfl | hb2
   ·exact Nat.le_trans hob hb
   ·obtain ⟨t,ht,rfl⟩:=List.mem_map.1 hb2
    obtain ⟨i,hi⟩:=List.getElem?_of_mem ht
    have hl:i<m.length:=by rw [← h.len];exact (List.getElem?_eq_some_iff.1 hi).1
    exact (h.row i t m[i] hi (List.getElem?_eq_getElem hl)).2.2.2.1
theorem wpList_append_line (w:World) {ops:Array Oper} {rest:List Oper} {o:Oper} {a:Act} {Q:Exit→Act→World→Prop} (hgd:o.guard=none)
  (s x:Operand) (ho:o.op=Op.call { callee:=Callee.builtin Builtin.append,args:=#[s,x],argTypes:=#[116,116] }) (ob base:Nat)
  (v:Value) (tags:List (Nat×Nat×Nat)) (m:List (List Int)) (t:Nat×Nat×Nat) (r:List Int) (u:Array Value) (T:TypeId) (hs:a.eval s=v) (hB:LinesB w ob base v tags m)
  (hx:a.eval x=.slice (some ⟨w.heap.size,0,none⟩) 1 1) (hu:u=#[tagW t r.length]) (hr1:r.length≤t.2.2) (hr2:t.2.2≤maxLen) (hR:RowB w t.1 t.2.1 r) (hb:base≤t.1) (hv:v.ownBlock≠some t.1) (hn:t.1∉tags.map (·.1))
  (hlen:m.length<1000000) (hbase:ob≤w.heap.size)
  (h:∀ v' w',LinesB w' ob base v' (tags++[t]) (m++[r])→Below ob w w'→Hid (∃ g c,v'=.slice (some ⟨g,0,none⟩) (m.length+1) c)→wpList Tryz.prog ops Q rest (a.put o.dst v') w') :
  wpList Tryz.prog ops Q (o::rest) a (w.alloc (.cells u T)):=by
 refine wpList_plain hgd fun K hK=>?_
 subst hu
 obtain ⟨i0,hi,hz,hsize,hby⟩:=info_parts infoLine
 have hadd:∀ j,(⟨w.heap.size,0,none⟩:Addr).add j=⟨w.heap.size,j,none⟩:=by intro j;unfold Addr.add;split <;> simp_all
 have hE:Ext w (w.alloc (.cells #[tagW t r.length] T)):=Ext.alloc _ _
 refine wp_append_own_at (w.alloc (.cells #[tagW t r.length] T)) s x 116 ho ob 119 i0 (.slice none 0 0) 1 24 Tryz.underlying116 hi hz hsize hby rfl (by decide) v m.length (tagWs tags m) hs (owns_ext hB.own hE) ⟨w.heap.size,0,none⟩ 1 1 [tagW t r.length] hx rfl ?_ ?_ ?_ ?_ ?_ ?_
 ·intro j q hq
  rw [hadd,World.cell?_alloc_new]
  simpa using hq
 ·intro u hu
  rw [List.mem_singleton.1 hu];rfl
 ·unfold maxLen;omega
 ·omega
 ·simp;omega
 ·intro v' w' hown hgrow _ hat
  have hLB:=(hB.ext hE).snoc t r hr1 hr2 (hR.ext hE) hb hv hn hown hgrow (by
   rcases hat with h1 | h1
   ·exact .inl h1
   ·exact .inr ⟨_,h1,Nat.le_refl _⟩)
  refine hK _ _ (h v' w' hLB ?_ ?_)
  ·have hgw:w.grownBy w' v.ownBlock:=grown_trans (hE.grown _) hgrow
   refine ⟨hgw.os,hgw.tape,hgw.output,hgw.size,fun b hb2=>hgw.block b (by omega) ?_⟩
   intro e
   have:=(hB.own.lt b e.symm).1
   omega
  ·obtain ⟨g,c,hv',-⟩:=owns_shape hown (by omega)
   exact ⟨g,c,hv'⟩
theorem wpList_append_nums (w:World) {ops:Array Oper} {rest:List Oper} {o:Oper} {a:Act} {Q:Exit→Act→World→Prop} (hgd:o.guard=none)
  (s x:Operand) (ho:o.op=Op.call { callee:=Callee.builtin Builtin.append,args:=#[s,x],argTypes:=#[119,119] }) (base:Nat)
  (v:Value) (xs ys:List Int) (hs:a.eval s=v) (hB:Build w base 53 1 v numC xs) (g c n:Nat) (hn:ys.length=n) (hx:a.eval x=.slice (some ⟨g,0,none⟩) n c) (hR:RowB w g 0 ys)
  (hlen:xs.length+n<1000000) (hpos:1≤n) (hbase:base≤w.heap.size)
  (h:∀ w' gr cr,RowB w' gr 0 (xs++ys)→base≤gr→xs.length+n≤cr→cr≤maxLen→Below base w w'→wpList Tryz.prog ops Q rest (a.put o.dst (.slice (some ⟨gr,0,none⟩) (xs.length+n) cr)) w') :
  wpList Tryz.prog ops Q (o::rest) a w:=by
 refine wpList_plain hgd fun K hK=>?_
 subst hn
 obtain ⟨i0,hi,hz,hsize,hby⟩:=info_parts infoBigI
 have hadd:∀ j,(⟨g,0,none⟩:Addr).add j=⟨g,0+j,none⟩:=by intro j;unfold Addr.add;split <;> simp_all
 have hbig:=hB.numsB
 refine wp_append_own_at w s x 119 ho base 53 i0 (.string ⟨#[]⟩) 1 16 Tryz.underlying119 hi hz hsize hby rfl (by decide) v xs.length (xs.map fun x=>Value.string (intB x)) hs hbig ⟨g,0,none⟩ ys.length c (ys.map fun x=>Value.string (intB x)) hx (by simp) ?_ ?_ ?_ ?_ hbase ?_
 ·intro j q hq
  rw [List.getElem?_map] at hq
  cases hy:ys[j]? with
  | none=>rw [hy] at hq;cases hq
  | some y =>
   rw [hy] at hq
   rw [hadd,hR.cell j y hy]
   exact congrArg some (Option.some.inj hq)
 ·intro u hu
  obtain ⟨y,-,rfl⟩:=List.mem_map.1 hu
  rfl
 ·unfold maxLen;omega
 ·omega
 ·intro v' w' hown hgrow _ hat
  have hown2:w'.ownsRow base 53 1 v' (xs++ys).length ((xs++ys).map fun x=>Value.string (intB x)):=by
   rw [List.length_append,List.map_append];exact hown
  obtain ⟨gr,cr,rfl,-⟩:=owns_shape hown2 (by rw [List.length_append];omega)
  obtain ⟨k1,k2,k3,k4⟩:=RowB.of_ownsW hown2
  rw [List.length_append] at k3
  rw [List.length_append]
  refine hK _ _ (h w' gr cr k1 k2 k3 k4 ⟨hgrow.os,hgrow.tape,hgrow.output,hgrow.size,fun b hb=>hgrow.block b (by omega) ?_⟩)
  intro e
  have:=(hbig.lt b e.symm).1
  omega
theorem run_copyK {P:Program} (w:World) (dT sT ty elem:TypeId) (g o dLen dCap:Nat) (a:Addr) (sLen sCap:Nat) (cur:Array Value) (t:TypeId) (cs:List Value) (sz:Nat)
  (hu:P.underlying dT=some (.slice elem)) (hs:(P.info? elem).map (·.size)=some sz)
  (hg:w.heap[g]?=some (.cells cur t (0,0))) (hn:cs.length=Nat.min sLen dLen*sz)
  (hsrc:∀ j v,cs[j]?=some v→w.cell? (a.add j)=some v) (hfit:o+cs.length≤cur.size) (h1:∀ v∈cs,v.oneCell'=true) :
  (Builtin.copy_ #[dT,sT] ty #[.slice (some ⟨g,o,none⟩) dLen dCap,.slice (some a) sLen sCap]).run P w =
   .ok (goInt (Nat.min sLen dLen)) (w.setRow g (cur.toList.take o++cs++cur.toList.drop (o+cs.length)).toArray):=by
 have hl:=run_loadCells_list (P:=P) w a cs hsrc
 have hst:=run_storeCells_at P g o t cs 0 cur w hg (by simpa using hfit) h1
 cases hq:P.info? elem with
 | none=>simp [hq] at hs
 | some i =>
  have hi:i.size=sz:=by simpa [hq] using hs
  simp [Builtin.copy_,run_underlying hu,Builtin.lenOf,Builtin.firstCells,sizeOf,typeInfo,hq,hi,← hn,hl,hst]
def strsI (l:List Int):List Value:=l.map fun x=>.string (intB x)
theorem strsI_len (l:List Int):(strsI l).length=l.length:=by unfold strsI;simp
theorem strsI_one (l:List Int):∀ v∈strsI l,v.oneCell'=true:=by
 intro v hv
 unfold strsI at hv
 obtain ⟨x,-,rfl⟩:=List.mem_map.1 hv
 rfl
theorem strsI_get {q:Int} {m j:Nat} (h:j<m):(strsI (List.replicate m q))[j]?=some (.string (intB q)):=by
 unfold strsI;rw [List.getElem?_map,List.getElem?_replicate,if_pos h];rfl
def repI (q:Int) (n k:Nat):List Value:=strsI (List.replicate k q)++List.replicate (n-k) (.string ⟨#[]⟩)
theorem repI_len (q:Int) {n k:Nat} (h:k≤n):(repI q n k).length=n:=by
 unfold repI;rw [List.length_append,strsI_len];simp;omega
theorem repI_all (q:Int) (n:Nat):repI q n n=strsI (List.replicate n q):=by simp [repI]
theorem repI_zero (q:Int) (n:Nat):repI q n 0=List.replicate n (.string ⟨#[]⟩):=by simp [repI,strsI]
theorem repI_copy (q:Int) {n k m:Nat} (h:k+m≤n):(repI q n k).take k++strsI (List.replicate m q)++(repI q n k).drop (k+(strsI (List.replicate m q)).length)=repI q n (k+m):=by
 have h1:(strsI (List.replicate k q)).length=k:=by rw [strsI_len];simp
 unfold repI
 rw [List.take_left' h1,List.drop_append,List.drop_eq_nil_of_le (by omega),h1,List.nil_append,List.drop_replicate,strsI_len,List.length_replicate,show k+m-k=m by omega,show n-k-m=n-(k+m) by omega,← List.replicate_append_replicate (n:=k) (m:=m)]
 unfold strsI;simp
theorem repI_src (q:Int) {n k m:Nat} (hm:m≤k) {j:Nat} {v:Value} (h:(strsI (List.replicate m q))[j]?=some v):(repI q n k)[j]?=some v:=by
 unfold repI
 have hj:=(List.getElem?_eq_some_iff.1 h).1
 rw [strsI_len,List.length_replicate] at hj
 rw [List.getElem?_append_left (by rw [strsI_len];simp;omega),strsI_get (by omega)]
 rw [strsI_get hj] at h;exact h
theorem rep_strs (q:Int) (n:Nat) {xs:List Int} (h:xs=List.replicate n q):StrsTo (repI q n n) n n xs:=by
 refine ⟨repI_len q (Nat.le_refl n),fun i hi=>⟨intB q,by rw [repI_all,strsI_get hi]⟩,fun i x hi hx=>?_⟩
 rw [repI_all,strsI_get hi]
 rw [h,List.getElem?_replicate,if_pos hi] at hx
 cases hx;rfl
set_option maxRecDepth 100000 in
set_option maxHeartbeats 4000000 in
theorem repeatI_any (q:Int) (n:Nat) (hn:n≤1000) (v:Value) (w:World) (h:ListAt 1 numC w v [q]) :
  Calls Tryz.prog 89 #[v,.int .i64 (n:Int)] w fun e w'=>∃ g,e=.returned (.slice (some ⟨g,0,none⟩) n n)∧w'.heap[g]?=some (.cells (repI q n n).toArray 53 (0,0))∧w.heap.size≤g∧Ext w w':=by
 obtain ⟨i0,hi,hz0,hz1,hz2⟩:=info_parts infoBigI
 have HI:=Lib.hid hi;have HZ0:=Lib.hid hz0;have HZ1:=Lib.hid hz1;have HZ2:=Lib.hid hz2
 clear hi hz0 hz1 hz2
 obtain ⟨a,c,rfl,h1,h2,-,hc⟩:=inCell.open (BigL.of_nums h)
 obtain ⟨b,off,rfl,hb,hcell⟩:=hc (by simp)
 have HSRC:Hid (∀ W,Ext w W→∀ j v,(strsI (List.replicate (Nat.min 1 n) q))[j]?=some v→W.cell? ((⟨b,off,none⟩:Addr).add j)=some v):=fun W hW j v hv=>by
  obtain ⟨u,hu1,hu⟩:=hcell 0 q rfl
  obtain rfl:u=.string (intB q):=hu1
  have hj:=(List.getElem?_eq_some_iff.1 hv).1
  rw [strsI_len,List.length_replicate] at hj
  have hn0:Nat.min 1 n≤1:=Nat.min_le_left _ _
  obtain rfl:j=0:=by omega
  rw [show (⟨b,off,none⟩:Addr).add 0=⟨b,off+0,none⟩ by unfold Addr.add;split <;> simp_all]
  refine hW.cell (hu.trans ?_)
  rw [← hv,strsI_get (by simpa using hj)]
 simp only [List.length_cons,List.length_nil,Nat.zero_add] at h1 ⊢
 clear h hc hcell
 unfold maxLen at h2
 have q1:¬ (n:Int)<0:=by omega
 have HMUL:Hid (∀ W,Calls Tryz.prog 146 #[.int .u64 1,.int .u64 (n:Int)] W fun e w'=>e=.returned (.tuple #[.int .u64 0,.int .u64 (n:Int)])∧w'=W):=fun W=>by
  have:=Tryz.bits_Mul 1 n (by decide) (by omega) W
  rw [Nat.one_mul,Nat.div_eq_of_lt (by omega),Nat.mod_eq_of_lt (by omega)] at this
  exact this
 have q2:IntKind.u64.wrap (n:Int)=(n:Int):=by rw [IntKind.wrap_u64];omega
 have q3:IntKind.i64.wrap (n:Int)=(n:Int):=by rw [IntKind.wrap_i64];omega
 have q4:¬ (9223372036854775807:Int)<(n:Int):=by omega
 go_enter Tryz.func89,Tryz.ntmps89
 go_wp2_with fail
 refine (HMUL.out _).mono ?_
 rintro e w1 ⟨rfl,rfl⟩
 clear HMUL
 go_wp2_with (at_make;refine wpList_make_full _ rfl _ _ 29 rfl w1.heap.size 53 i0 (.string ⟨#[]⟩) 1 Tryz.underlying29 HI.out HZ0.out HZ1.out _ _ _ _ n rfl rfl rfl rfl ?c1 ?c2 ?c3 ?_)
 any_goals (first | (rw [HZ2.out];omega) | (unfold maxLen;omega) | exact Nat.le_refl _)
 intro w3 hown hgrow
 have hs2:(i0.zero=some (.string ⟨#[]⟩)):=HZ0.out
 have HG3:Hid (w3.heap[w1.heap.size]?=some (.cells (repI q n 0).toArray 53 (0,0))∧Ext w1 w3):=by
  refine ⟨?_,ext_grown hgrow⟩
  rcases hown.2 with ⟨hv,-⟩ | ⟨g',cap,cur,hv,-,hg,-,-,h3,h4⟩
  ·simp at hv
  ·simp only [Value.slice.injEq,Option.some.injEq,Addr.mk.injEq] at hv
   obtain ⟨⟨rfl,-,-⟩,-,rfl⟩:=hv
   rw [hg,repI_zero]
   congr 2
   have h5:cur.toList=List.replicate n (.string ⟨#[]⟩):=by
    rw [List.take_of_length_le (by simp [h3])] at h4
    rw [h4]
    (try rw [Nat.mul_one]);exact made_strs _
   rw [← h5]
 clear hown hgrow hs2
 have HN2:Hid ((strsI (List.replicate (Nat.min 1 n) q)).length=Nat.min 1 n*1∧0+(strsI (List.replicate (Nat.min 1 n) q)).length≤(repI q n 0).toArray.size):=by
  have h0:Nat.min 1 n≤n:=Nat.min_le_right _ _
  refine ⟨by rw [strsI_len];simp,?_⟩
  simp only [List.size_toArray]
  rw [strsI_len,repI_len q (Nat.zero_le n)]
  simp;omega
 obtain ⟨k0,hk0⟩:∃ k0,k0=Nat.min 1 n:=⟨_,rfl⟩
 have hk01:k0≤n:=by rw [hk0];exact Nat.min_le_right _ _
 have hk02:0<n→0<k0:=fun h=>by rw [hk0];exact Nat.lt_min.2 ⟨by omega,h⟩
 have HK:=Lib.hid (And.intro hk01 hk02)
 have HK0:=Lib.hid hk0
 clear hk0 hk01 hk02
 have HCO:Hid ((((repI q n 0).toArray.toList.take 0)++strsI (List.replicate (Nat.min 1 n) q)++(repI q n 0).toArray.toList.drop (0+(strsI (List.replicate (Nat.min 1 n) q)).length)).toArray=(repI q n k0).toArray):=by
  have:=repI_copy q (n:=n) (k:=0) (m:=k0) (by have:=HK.out.1;omega)
  unfold Hid
  rw [HK0.out] at this ⊢
  simpa using congrArg List.toArray this
 obtain ⟨W4,hW4⟩:∃ W4,W4=w3.setRow w1.heap.size (((repI q n 0).toArray.toList.take 0)++strsI (List.replicate (Nat.min 1 n) q)++(repI q n 0).toArray.toList.drop (0+(strsI (List.replicate (Nat.min 1 n) q)).length)).toArray:=⟨_,rfl⟩
 have hcp:(Builtin.copy_ #[29,29] 3 #[.slice (some ⟨w1.heap.size,0,none⟩) n n,.slice (some ⟨b,off,none⟩) 1 c]).run Tryz.prog w3=.ok (.int .i64 (k0:Int)) W4:=by
  rw [hW4,HK0.out]
  exact run_copyK w3 _ _ _ 53 w1.heap.size 0 n n ⟨b,off,none⟩ 1 c (repI q n 0).toArray 53 (strsI (List.replicate (Nat.min 1 n) q)) 1 Tryz.underlying29 (by kernel_rfl) HG3.out.1 HN2.out.1 (HSRC.out _ HG3.out.2) (by have:=HN2.out.2;simpa using this) (strsI_one _)
 have HG4:Hid (W4.heap[w1.heap.size]?=some (.cells (repI q n k0).toArray 53 (0,0))∧Ext w1 W4):=by
  rw [hW4,HCO.out]
  exact ⟨setRow_heap w3 _ _ _ _ _ HG3.out.1,below_setRow HG3.out.2 (Nat.le_refl _) _⟩
 clear hW4 HCO HN2 HSRC HK0
 go_wp2_with fail
 clear hcp
 go_loopw [8] (fun t wr=>∃ k:Nat,k≤n∧(0<n→0<k)∧t=.int .i64 (k:Int)∧Hid (wr.heap[w1.heap.size]?=some (.cells (repI q n k).toArray 53 (0,0))∧Ext w1 wr)) (fun t _=>n-(intOf t).toNat)
 case atStart=>exact ⟨k0,HK.out.1,HK.out.2,rfl,HG4.out⟩
 case round =>
  obtain ⟨k,hk,hk0,rfl,HG⟩:=hrel
  obtain ⟨wo,rfl⟩:∃ wo:World,wo=wr:=⟨_,rfl⟩
  by_cases hlt:k<n
  ·skip
   obtain ⟨m,hm⟩:∃ m,m=Nat.min k (n-k):=⟨_,rfl⟩
   have hm1:m≤k:=by rw [hm];exact Nat.min_le_left _ _
   have hm2:m≤n-k:=by rw [hm];exact Nat.min_le_right _ _
   have hm3:0<m:=by rw [hm];exact Nat.lt_min.2 ⟨hk0 (by omega),by omega⟩
   have HMN:Hid (m=Nat.min k (n-k)):=hm
   have p1:(k:Int)≤(n:Int):=by omega
   have p2:(0:Int)≤(k:Int):=by omega
   have p3:IntKind.i64.wrap ((k:Int)+(m:Int))=(k:Int)+(m:Int):=by rw [IntKind.wrap_i64];omega
   have hGD:wo.drew.heap[w1.heap.size]?=some (.cells (repI q n k).toArray 53 (0,0)):=HG.out.1
   obtain ⟨W5,hW5⟩:∃ W5,W5=wo.drew.setRow w1.heap.size (((repI q n k).toArray.toList.take (k))++strsI (List.replicate m q)++(repI q n k).toArray.toList.drop (k+(strsI (List.replicate m q)).length)).toArray:=⟨_,rfl⟩
   have hcp:(Builtin.copy_ #[29,29] 3 #[.slice (some ⟨w1.heap.size,k,none⟩) (n-k) (n-k),.slice (some ⟨w1.heap.size,0,none⟩) k n]).run Tryz.prog wo.drew=.ok (.int .i64 (m:Int)) W5:=by
    rw [hW5,hm]
    exact run_copyK wo.drew _ _ _ 53 w1.heap.size (k) (n-k) (n-k) ⟨w1.heap.size,0,none⟩ k n (repI q n k).toArray 53 (strsI (List.replicate (Nat.min k (n-k)) q)) 1 Tryz.underlying29 (by kernel_rfl) hGD (by rw [strsI_len];simp) (fun j v hv=>by
     rw [show (⟨w1.heap.size,0,none⟩:Addr).add j=⟨w1.heap.size,j,none⟩ by unfold Addr.add;split <;> simp_all]
     have:=repI_src q (n:=n) (k:=k) (Nat.min_le_left _ _) hv
     simp only [World.cell?,hGD]
     simpa using this) (by simp only [List.size_toArray];rw [strsI_len,repI_len q hk,List.length_replicate,← hm];omega) (strsI_one _)
   have HG5:Hid (W5.heap[w1.heap.size]?=some (.cells (repI q n (k+m)).toArray 53 (0,0))∧Ext w1 W5):=by
    rw [hW5]
    refine ⟨?_,below_setRow (HG.out.2.trans (Ext.drew _)) (Nat.le_refl _) _⟩
    rw [setRow_heap wo.drew _ _ _ _ _ hGD]
    have:=repI_copy q (n:=n) (k:=k) (m:=m) (by omega)
    rw [← this]
   have q5:(k:Int)<(n:Int):=by omega
   have q6:¬ n=k:=by omega
   clear hW5 hm hGD
   go_upto_region 9 with (fail)
   refine region_anyE (fun _=>True) 7 (by kernel_rfl) trivial (fun hHeld=>?_)
   refine anyE_takeW (v:=?_) 0 rfl (by kernel_rfl) (by kernel_rfl) (by kernel_rfl) (by decide) (fun _ _ _ h=>h) (Or.inl ⟨by rfl,?_⟩) (by assumption) ?_
   rotate_left
   ·((intro w');(try go_simp);(try with_reducible rfl))
   (try simp only [Act.put,List.setIfInBounds_toArray,List.set_cons_zero,List.set_cons_succ])
   refine anyE_takeW (v:=?_) 1 rfl (by kernel_rfl) (by kernel_rfl) (by kernel_rfl) (by decide) (fun _ _ _ h=>h) (Or.inl ⟨by rfl,?_⟩) (by assumption) ?_
   rotate_left
   ·((intro w');(try go_simp);(try with_reducible rfl))
   (try simp only [Act.put,List.setIfInBounds_toArray,List.set_cons_zero,List.set_cons_succ])
   refine anyE_takeW (v:=?_) 2 rfl (by kernel_rfl) (by kernel_rfl) (by kernel_rfl) (by decide) (fun _ _ _ h=>h) (Or.inl ⟨by rfl,?_⟩) (by assumption) ?_
   rotate_left
   ·((intro w');(try go_simp);(try with_reducible rfl))
   (try simp only [Act.put,List.setIfInBounds_toArray,List.set_cons_zero,List.set_cons_succ])
   refine anyE_takeW (v:=?_) 3 rfl (by kernel_rfl) (by kernel_rfl) (by kernel_rfl) (by decide) (fun _ _ _ h=>h) (Or.inl ⟨by rfl,?_⟩) (by assumption) ?_
   rotate_left
   ·((intro w');(try go_simp);(try with_reducible rfl))
   (try simp only [Act.put,List.setIfInBounds_toArray,List.set_cons_zero,List.set_cons_succ])
   refine anyE_takeW (v:=?_) 4 rfl (by kernel_rfl) (by kernel_rfl) (by kernel_rfl) (by decide) (fun _ _ _ h=>h) (Or.inl ⟨by rfl,?_⟩) (by assumption) ?_
   rotate_left
   ·((intro w');(try go_simp);(try with_reducible rfl))
   (try simp only [Act.put,List.setIfInBounds_toArray,List.set_cons_zero,List.set_cons_succ])
   refine anyE_takeW (v:=?_) 5 rfl (by kernel_rfl) (by kernel_rfl) (by kernel_rfl) (by decide) (fun _ _ _ h=>h) (Or.inl ⟨by rfl,?_⟩) (by assumption) ?_
   rotate_left
   ·((intro w');(try go_simp);(try with_reducible rfl))
   (try simp only [Act.put,List.setIfInBounds_toArray,List.set_cons_zero,List.set_cons_succ])
   refine anyE_takeW (v:=?_) 6 rfl (by kernel_rfl) (by kernel_rfl) (by kernel_rfl) (by decide) (fun _ _ _ h=>h) (Or.inl ⟨by rfl,?_⟩) (by assumption) ?_
   rotate_left
   ·((intro w');(try go_simp);(try with_reducible rfl))
   (try simp only [Act.put,List.setIfInBounds_toArray,List.set_cons_zero,List.set_cons_succ])
   refine anyE_step 7 (by kernel_rfl) rfl (fun K hK=>?_)
   go_simp
   refine hK.out _ _ trivial (fun hHeld=>?_)
   clear hK K
   (try simp only [Act.put,List.setIfInBounds_toArray,List.set_cons_zero,List.set_cons_succ])
   refine anyE_takeW (v:=?_) 8 rfl (by kernel_rfl) (by kernel_rfl) (by kernel_rfl) (by decide) (fun _ _ _ h=>h) (Or.inl ⟨by rfl,?_⟩) (by assumption) ?_
   rotate_left
   ·((intro w');(try go_simp);(try with_reducible rfl))
   (try simp only [Act.put,List.setIfInBounds_toArray,List.set_cons_zero,List.set_cons_succ])
   refine anyE_last 9 (by kernel_rfl) (by kernel_rfl) (by kernel_rfl) rfl (fun K hK=>?_)
   go_simp
   refine hK.out _ _ ?_
   clear hK K
   (try simp only [Act.put,List.setIfInBounds_toArray,List.set_cons_zero,List.set_cons_succ])
   clear hcp hHeld
   go_wp2_with fail
   go_roundw
   case rel=>exact ⟨k+m,by omega,fun _=>by omega,by go_num,HG5.out⟩
   case measure=>simp [intOf];omega
  ·obtain rfl:k=n:=by omega
   go_wp2_with fail
   go_ret
   exact ⟨_,rfl,HG.out.1,Nat.le_refl _,HG.out.2⟩
end Go.Proofs.YtjlkkofmojgipaaGreatDoor
