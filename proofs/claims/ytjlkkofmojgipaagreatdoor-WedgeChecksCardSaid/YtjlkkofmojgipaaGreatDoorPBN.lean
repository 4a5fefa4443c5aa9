import Derived.Test.YtjlkkofmojgipaaGreatDoorPBM
import Derived.Test.YtjlkkofmojgipaaGreatDoorPBK
import Derived.Test.YtjlkkofmojgipaaGreatDoorPAL
import Derived.Test.YtjlkkofmojgipaaGreatDoorPAF
import Derived.Test.YtjlkkofmojgipaaGreatDoorPAN
import Derived.Test.YtjlkkofmojgipaaGreatDoorPAP
import Derived.Test.YtjlkkofmojgipaaGreatDoorPAR
import Derived.Test.YtjlkkofmojgipaaGreatDoorPBF
import Derived.Test.YtjlkkofmojgipaaGreatDoorPAZ
import Derived.Test.YtjlkkofmojgipaaGreatDoorPBG
import Derived.Deep.Cut
import Derived.Test.YtjlkkofmojgipaaGreatDoorPAU
namespace Go.Proofs.YtjlkkofmojgipaaGreatDoor
set_option linter.unusedVariables false
set_option linter.unusedSimpArgs false
def rowE (m:List (List Int)) (i:Nat):List Int:=m.getD i []
def combR (p f d:Int) (r pr:List Int):List Int:=List.zipWith (fun x y=>(p*x-f*y) / d) r pr
def elETo (m:List (List Int)) (c k:Nat) (p d:Int):Nat→List (List Int)
 | 0=>m
 | j+1=>if j=k then elETo m c k p d j else (elETo m c k p d j).set j (combR p (elI m j c) d (rowE m j) (rowE m k))
def findE (m:List (List Int)) (c:Nat):Nat→Nat→Nat
 | 0,a=>a
 | f+1,a=>if elI m a c=0 then findE m c f (a+1) else a
structure ElS where
 m:List (List Int)
 lead:List Nat
 last:Int
 odd:Bool
def stepE (c:Nat) (s:ElS):ElS :=
 let k:=s.lead.length
 let a:=findE s.m c (s.m.length-k) k
 if a=s.m.length then s
 else
  let m1:=if a=k then s.m else swp s.m k a
  ⟨elETo m1 c k (elI m1 k c) s.last m1.length,s.lead++[c],elI m1 k c,if a=k then s.odd else !s.odd⟩
def barTo (m:List (List Int)):Nat→ElS
 | 0=>⟨m,[],1,false⟩
 | c+1=>stepE c (barTo m c)
def RectI (C:Nat) (m:List (List Int)):Prop:=∀ r∈m,r.length=C
theorem RectI.row {C:Nat} {m:List (List Int)} (h:RectI C m) {i:Nat} (hi:i<m.length):(rowE m i).length=C:=by
 unfold rowE;rw [List.getD_eq_getElem?_getD,List.getElem?_eq_getElem hi];exact h _ (List.getElem_mem hi)
theorem RectI.set {C:Nat} {m:List (List Int)} (h:RectI C m) (i:Nat) {r:List Int} (hr:r.length=C):RectI C (m.set i r):=fun q hq=>by
 rcases List.mem_or_eq_of_mem_set hq with hq | rfl
 ·exact h q hq
 ·exact hr
theorem RectI.swp {C:Nat} {m:List (List Int)} (h:RectI C m) (i j:Nat):RectI C (swp m i j):=by
 unfold Proofs.YtjlkkofmojgipaaGreatDoor.swp
 split
 ·rename_i a b ha hb
  exact (h.set i (h _ (List.mem_of_getElem? hb))).set j (h _ (List.mem_of_getElem? ha))
 ·exact h
theorem combR_len {p f d:Int} {r pr:List Int} (h:pr.length=r.length):(combR p f d r pr).length=r.length:=by
 unfold combR;rw [List.length_zipWith,h,Nat.min_self]
theorem RectI.el {C:Nat} {m:List (List Int)} (h:RectI C m) (c k:Nat) (p d:Int) (hk:k<m.length):∀ j,j≤m.length→RectI C (elETo m c k p d j)
 | 0,_=>h
 | j+1,hj=>by
  unfold elETo
  split
  ·exact RectI.el h c k p d hk j (by omega)
  ·exact (RectI.el h c k p d hk j (by omega)).set j (by rw [combR_len (by rw [h.row hk,h.row (show j<m.length by omega)]),h.row (by omega)])
structure BarI (C c:Nat) (m:List (List Int)) (E:ElS) (S:RedSt):Prop where
 lead:E.lead=S.lead
 len:E.m.length=m.length
 rect:RectI C E.m
 el:∀ i j,((elI E.m i j:Int):Rat)=(E.last:Rat)*elQ S.m i j
 ne:E.last≠0
 det:S.lead.length=c→S.det=(if E.odd then -1 else 1)*(E.last:Rat)
 inv:∃ ρ sg x,RedI m.length (elQ (matQ m)) c S ρ sg x∧(E.last:Rat)=detF S.lead.length fun a b=>elQ (matQ m) (ρ a) (kapQ S.lead b)
theorem red_int {K R c:Nat} {A:Nat→Nat→Rat} {s:RedSt} {ρ:Nat→Nat} {sg x:Rat} (h:RedI R A c s ρ sg x) (hA:∀ i j,IntLe K (A i j)) (hK:1≤K) (i j:Nat) :
  IntLe (detK K (R+1)) (detF s.lead.length (fun a b=>A (ρ a) (kapQ s.lead b))*elQ s.m i j):=by
 have hl:=h.rle
 by_cases hi:i<s.lead.length
 ·rw [Rat.mul_comm,← h.small hi]
  exact (detF_int fun a b=>hA _ _).mono (detK_mono hK (by omega))
 ·by_cases hR:i<R
  ·rw [Rat.mul_comm,← h.big (by omega) hR]
   exact (detF_int fun a b=>hA _ _).mono (detK_mono hK (by omega))
  ·rw [elQ_out (by rw [h.len];omega),Rat.mul_zero]
   exact IntLe.zero _
theorem BarI.small {C c K:Nat} {m:List (List Int)} {E:ElS} {S:RedSt} (h:BarI C c m E S) (hK:1≤K) (hm:∀ i j,IntLe K (elQ (matQ m) i j)) :
  (∀ i j,(elI E.m i j).natAbs≤detK K (m.length+1))∧E.last.natAbs≤detK K (m.length+1):=by
 obtain ⟨ρ,sg,x,hI,hD⟩:=h.inv
 have key:∀ (z:Int) (q:Rat),IntLe (detK K (m.length+1)) q→(z:Rat)=q→z.natAbs≤detK K (m.length+1):=by
  rintro z q ⟨y,hy,hb⟩ hz
  rw [hy] at hz
  have:z=y:=by exact_mod_cast hz
  rw [this];exact hb
 refine ⟨fun i j=>key _ _ (red_int hI hm hK i j) (by rw [h.el,hD]),key _ _ ((detF_int fun a b=>hm _ _).mono (detK_mono hK (by have:=hI.rle;omega))) hD⟩
end Go.Proofs.YtjlkkofmojgipaaGreatDoor
namespace Go.Proofs.YtjlkkofmojgipaaGreatDoor
set_option linter.unusedVariables false
set_option linter.unusedSimpArgs false
open Go.RowKit
structure MidE (w0 wr:World) (g0 D:Nat) (tags0:List (Nat×Nat)) (m:List (List Int)) (v:Value) (ld:List Nat) (tags:List (Nat×Nat)):Prop where
 mat:MatN wr g0 tags m
 lead:OwnI D wr v ld
 same:∀ b,blocksQ g0 tags b↔blocksQ g0 tags0 b
 grown:GrownS (blocksQ g0 tags0) w0 wr
 size:D≤wr.heap.size
theorem MidE.ext {w0 wr w':World} {g0 D:Nat} {tags0:List (Nat×Nat)} {m:List (List Int)} {v:Value} {ld:List Nat} {tags:List (Nat×Nat)} (h:MidE w0 wr g0 D tags0 m v ld tags) (he:Ext wr w'):MidE w0 w' g0 D tags0 m v ld tags :=
 ⟨h.mat.ext he,h.lead.ext he,h.same,h.grown.trans (he.grownS _),Nat.le_trans h.size he.size⟩
theorem MidE.setEl {w0 wr:World} {g0 D:Nat} {tags0:List (Nat×Nat)} {m:List (List Int)} {v:Value} {ld:List Nat} {tags:List (Nat×Nat)} (h:MidE w0 wr g0 D tags0 m v ld tags) (hb:∀ b,blocksQ g0 tags b→b<D)
  {i j:Nat} {t:Nat×Nat} {r:List Int} (ht:tags[i]?=some t) (hr:m[i]?=some r) (hj:j<r.length) (q:Int) :
  MidE w0 (wr.setCell ⟨t.1,j,none⟩ (.string (intB q))) g0 D tags0 (m.set i (r.set j q)) v ld tags:=by
 have hgr:GrownS (·=t.1) wr (wr.setCell ⟨t.1,j,none⟩ (.string (intB q))):=(GrownS.refl (·=t.1) wr).store (S:=(·=t.1)) rfl _ _
 obtain ⟨t',ht',-,-,-,hR,hne,hbq⟩:=h.mat.get hr
 obtain rfl:t'=t:=Option.some.inj (ht'.symm.trans ht)
 have hlt:=hb _ hbq
 exact ⟨h.mat.setRow ht hr (by rw [List.length_set]) hgr (hR.set j hj q),h.lead.grown hgr (fun b e=>by omega),h.same,h.grown.trans (hgr.weak fun b _ e=>by rw [e];exact (h.same _).1 hbq),by rw [setCell_sizeQ];exact h.size⟩
theorem MidE.push {w0 wr w':World} {g0 D:Nat} {tags0:List (Nat×Nat)} {m:List (List Int)} {v v':Value} {ld ld':List Nat} {tags:List (Nat×Nat)} (h:MidE w0 wr g0 D tags0 m v ld tags) (hb:∀ b,blocksQ g0 tags b→b<D) (hD:w0.heap.size≤D)
  (hB:Below D wr w') (hv:OwnI D w' v' ld'):MidE w0 w' g0 D tags0 m v' ld' tags:=by
 have hgr:GrownS (fun b=>D≤b) wr w':=⟨hB.os,hB.tape,hB.output,hB.size,fun k hk hn=>hB.block k (by omega)⟩
 exact ⟨h.mat.grown hgr (fun b hb' e=>by have:=hb b hb';omega),hv,h.same,grown_new h.grown hgr (fun b e=>.inl (by omega)),Nat.le_trans h.size hB.size⟩
theorem MidE.swap {w0 wr:World} {g0 D C:Nat} {tags0:List (Nat×Nat)} {m:List (List Int)} {v:Value} {ld:List Nat} {tags:List (Nat×Nat)} (h:MidE w0 wr g0 D tags0 m v ld tags) (hb:∀ b,blocksQ g0 tags0 b→b<D) (hr:RectI C m) {k a:Nat} (hk:k<m.length) (ha:a<m.length) :
  ∃ s t,tags[k]?=some s∧tags[a]?=some t∧wr.cell? ⟨g0,k,none⟩=some (.slice (some ⟨s.1,0,none⟩) C s.2)∧wr.cell? ⟨g0,a,none⟩=some (.slice (some ⟨t.1,0,none⟩) C t.2)∧wr.frozen? ⟨g0,k,none⟩=false∧wr.frozen? ⟨g0,a,none⟩=false∧C≤s.2∧C≤t.2∧s.2≤9223372036854775807∧t.2≤9223372036854775807 ∧
   MidE w0 ((wr.setCell ⟨g0,k,none⟩ (.slice (some ⟨t.1,0,none⟩) C t.2)).setCell ⟨g0,a,none⟩ (.slice (some ⟨s.1,0,none⟩) C s.2)) g0 D tags0 (swp m k a) v ld (swp tags k a) ∧
   MidE w0 ((wr.setCell ⟨g0,a,none⟩ (.slice (some ⟨s.1,0,none⟩) C s.2)).setCell ⟨g0,k,none⟩ (.slice (some ⟨t.1,0,none⟩) C t.2)) g0 D tags0 (swp m a k) v ld (swp tags a k):=by
 have hk2:=List.getElem?_eq_getElem hk
 have ha2:=List.getElem?_eq_getElem ha
 obtain ⟨s,hs,c1,h1,h2,-⟩:=h.mat.get hk2
 obtain ⟨t,ht,c3,h3,h4,-⟩:=h.mat.get ha2
 have e1:=hr _ (List.mem_of_getElem? hk2)
 have e2:=hr _ (List.mem_of_getElem? ha2)
 have hsw:=h.mat.swap hs ht hk2 ha2
 have hsw2:=h.mat.swap ht hs ha2 hk2
 rw [e1] at c1 h1 hsw hsw2
 rw [e2] at c3 h3 hsw hsw2
 have hgr:∀ i j x y,GrownS (·=g0) wr ((wr.setCell ⟨g0,i,none⟩ x).setCell ⟨g0,j,none⟩ y):=fun i j x y=>((GrownS.refl (·=g0) wr).store (S:=(·=g0)) rfl _ _).store (S:=(·=g0)) rfl _ _
 have hg0:blocksQ g0 tags0 g0:=List.mem_cons_self ..
 have hgl:=hb g0 hg0
 refine ⟨s,t,hs,ht,c1,c3,h.mat.free k,h.mat.free a,h1,h3,h2,h4,⟨hsw,h.lead.grown (hgr _ _ _ _) (fun b e=>by omega),fun b=>(swp_blocks hs ht).trans (h.same b),h.grown.trans ((hgr _ _ _ _).weak fun b _ e=>by rw [e];exact hg0),by rw [setCell_sizeQ,setCell_sizeQ];exact h.size⟩,
  ⟨hsw2,h.lead.grown (hgr _ _ _ _) (fun b e=>by omega),fun b=>(swp_blocks ht hs).trans (h.same b),h.grown.trans ((hgr _ _ _ _).weak fun b _ e=>by rw [e];exact hg0),by rw [setCell_sizeQ,setCell_sizeQ];exact h.size⟩⟩
structure ElOK (m:List (List Int)) (n:Nat):Prop where
 sz:∀ c,c≤n→∀ i j,(intB (elI (barTo m c).m i j)).size≤6000
 lsz:∀ c,c≤n→(intB (barTo m c).last).size≤6000
 ne:∀ c,c≤n→(barTo m c).last≠0
 dvd:∀ c a,c<n→(barTo m c).lead.length≤a→a<m.length→elI (barTo m c).m a c≠0→(∀ j,(barTo m c).lead.length≤j→j<a→elI (barTo m c).m j c=0)→∀ m1,m1=(if a=(barTo m c).lead.length then (barTo m c).m else swp (barTo m c).m (barTo m c).lead.length a) →
  ∀ i j,elI m1 (barTo m c).lead.length c*elI m1 i j-elI m1 i c*elI m1 (barTo m c).lead.length j=(barTo m c).last*((elI m1 (barTo m c).lead.length c*elI m1 i j-elI m1 i c*elI m1 (barTo m c).lead.length j) / (barTo m c).last)
end Go.Proofs.YtjlkkofmojgipaaGreatDoor
namespace Go.Proofs.YtjlkkofmojgipaaGreatDoor
set_option linter.unusedVariables false
set_option linter.unusedSimpArgs false
end Go.Proofs.YtjlkkofmojgipaaGreatDoor
namespace Go.Proofs.YtjlkkofmojgipaaGreatDoor
set_option linter.unusedVariables false
set_option linter.unusedSimpArgs false
open Go.RowKit
theorem part_fit {xss:List (List Int)} (hE:tabE xss=0) (R S:List Nat):∀ r∈partI xss R S,∀ a∈r,-1000000000≤a∧a≤1000000000:=by
 intro r hr a ha
 unfold partI at hr
 obtain ⟨i,-,rfl⟩:=List.mem_map.1 hr
 obtain ⟨j,-,rfl⟩:=List.mem_map.1 ha
 have h:=matQ_el (xss:=xss) (fun r hr=>((tabE_zero hE).2 r hr).2.2) i j
 obtain ⟨z,h1,h2⟩:=h
 rw [matQ_elI] at h1
 have h3:elI xss i j=z:=congrArg Rat.num h1
 have h4:(xss.getD i []).getD j 0=z:=h3
 rw [h4];omega
theorem minors_small {xss:List (List Int)} (hE:tabE xss=0) {k:Nat} (hk1:k≤xss.length) (hk2:k≤colsN xss) :
  ∀ R∈setsL xss.length k,∀ S∈setsL (colsN xss) k,∀ c,c<k→AllRS 2500 (redTo (matQ (partI xss R S)) c).m∧RS 9000 (redTo (matQ (partI xss R S)) c).det:=by
 intro R hR S hS c _
 obtain ⟨hl,hrr⟩:=tabE_zero hE
 obtain ⟨s1,-,-⟩:=sets_ok (n:=xss.length) hl hk1
 exact red_small (partI_rect xss R S) (by rw [matQ_len,partI_len,s1.len R hR];omega) (matQ_el (part_fit hE R S)) c
theorem mat2W (w:World) (r q:List Int) (n m:Nat) (hn:n=r.length) (hm:m=q.length) (T T1 T2:TypeId) (hb:∀ x∈r++q,-9223372036854775808≤x∧x≤9223372036854775807) (hl:r.length≤100) (hl2:q.length≤100) (C D:Array Value) (hC:C=(r.map (Value.int .i64)).toArray) (hD:D=(q.map (Value.int .i64)).toArray) :
  Rows2 (((w.alloc (.cells C T)).alloc (.cells D T1)).alloc (.cells #[.slice (some ⟨w.heap.size,0,none⟩) n n,.slice (some ⟨w.heap.size+1,0,none⟩) m m] T2)) (.slice (some ⟨w.heap.size+1+1,0,none⟩) 2 2) [r,q]:=by
 subst hC;subst hn;subst hD;subst hm
 have h1:=(Ints.lit w r T (by unfold maxLen;omega) (fun x hx=>hb x (List.mem_append_left _ hx))).ext (Ext.alloc _ (.cells (q.map (Value.int .i64)).toArray T1))
 have h2:=Ints.lit (w.alloc (.cells (r.map (Value.int .i64)).toArray T)) q T1 (by unfold maxLen;omega) (fun x hx=>hb x (List.mem_append_right _ hx))
 rw [World.size_alloc] at h2
 have:=ListAt.lit (R:=Ints) (fun _ _ _ _ he h=>Ints.ext h he) ((w.alloc (.cells (r.map (Value.int .i64)).toArray T)).alloc (.cells (q.map (Value.int .i64)).toArray T1)) [.slice (some ⟨w.heap.size,0,none⟩) r.length r.length,.slice (some ⟨w.heap.size+1,0,none⟩) q.length q.length] [r,q] T2 rfl (by unfold maxLen;simp) (fun j u x hu hx=>by
  match j with
  | 0=>simp only [List.getElem?_cons_zero,Option.some.injEq] at hu hx;subst hu;subst hx;exact h1
  | 1=>simp only [List.getElem?_cons_succ,List.getElem?_cons_zero,Option.some.injEq] at hu hx;subst hu;subst hx;exact h2
  | j+2=>simp at hu)
 simpa using this
theorem nums_lit (w:World) (xs:List Int) (C:Array Value) (T:TypeId) (n:Nat) (hC:C=(xs.map fun x=>Value.string (intB x)).toArray) (hn:n=xs.length) (hl:xs.length≤1000):ListAt 1 numC (w.alloc (.cells C T)) (.slice (some ⟨w.heap.size,0,none⟩) n n) xs:=by
 subst hC;subst hn
 have hfl:(xs.map fun x=>[Value.string (intB x)]).flatten=xs.map fun x=>Value.string (intB x):=flatten_one (fun x=>Value.string (intB x)) xs
 refine ⟨xs.map fun x=>[.string (intB x)],by simp,by simp,⟨some ⟨w.heap.size,0,none⟩,xs.length,by simp,Nat.le_of_eq (by simp),by unfold maxLen;omega,(fun h=>by cases h),fun _=>⟨w.heap.size,0,rfl,by simp,fun j u hu=>?_⟩⟩,?_⟩
 ·rw [hfl] at hu
  rw [World.cell?_alloc_new,Nat.zero_add];simpa using hu
 ·intro j u x hu hx
  rw [List.getElem?_map,hx] at hu
  exact (Option.some.inj hu).symm
theorem s10_1:intB 0=⟨#[48]⟩∧intB 1=⟨#[49]⟩∧intB 4=⟨#[52]⟩∧intB (-4)=⟨#[45,52]⟩:=by decide +kernel
theorem k10_1:minorsS [[1,0,-4],[0,1,4]] 2=[1,4,4]:=by decide +kernel
theorem k10_2:dualL 3 2 [1,4,4]=[4,-4,1]:=by decide +kernel
theorem k10_3:intL 3 2 [1,4,4] [1,0,0]=[0,1,4]:=by decide +kernel
theorem k10_4:∃ R,kernW 10 3 2 [1,4,4]=some R∧R.length=2∧formW 3 10 R=some [[1,0,-4],[0,1,4]]:=by
 refine ⟨(kernW 10 3 2 [1,4,4]).getD [],?_⟩
 decide +kernel
theorem k10_5:∃ R,kernW 10 4 2 [1,0,0,0,0,1]=some R∧R.length≠2:=by
 refine ⟨(kernW 10 4 2 [1,0,0,0,0,1]).getD [],?_⟩
 decide +kernel
theorem digs_small {X:List Int} (h:(X.all fun x=>decide (x.natAbs≤1000))=true):Digits400 X:=fun x hx=>by
 have h1:=of_decide_eq_true (List.all_eq_true.1 h x hx)
 exact Nat.lt_of_le_of_lt h1 (by decide +kernel)
theorem right1:RightM 3 2 [1,4,4]:=⟨by decide,by decide,by decide +kernel,digs_small (by decide)⟩
theorem right2:RightM 4 2 [1,0,0,0,0,1]:=⟨by decide,by decide,by decide +kernel,digs_small (by decide)⟩
theorem multi_open {w:World} {u:Value} {n k:Nat} {X:List Int} (h:MultiV w u n k X):∃ a c,u=.agg #[.int .i64 n,.int .i64 k,.slice a X.length c]∧ListAt 1 numC w (.slice a X.length c) X:=by
 obtain ⟨r,rfl,hr⟩:=h
 obtain ⟨a,c,rfl,-⟩:=ListAt.open hr
 exact ⟨a,c,rfl,hr⟩
set_option maxRecDepth 100000 in
set_option maxHeartbeats 4000000 in
theorem known10_any (w:World) (hlib:LibT w) (hb:4<w.heap.size) :
  Calls Tryz.prog 13 #[] w fun e w'=>e=.returned (.bool true)∧Ext w w':=by
 have HOF:Hid (∀ W v,Ext w W→Rows2 W v [[1,0,-4],[0,1,4]]→Calls Tryz.prog 15 #[v,.int .i64 3] W fun e w'=>∃ a c,e=.returned (.tuple #[.agg #[.int .i64 3,.int .i64 2,.slice a 3 c],.int .i64 0])∧ListAt 1 numC w' (.slice a 3 c) [1,4,4]∧Ext W w'):=fun W v hW hv=>by
  have hE:tabE [[1,0,-4],[0,1,4]]=0:=by decide +kernel
  refine (wOf_any [[1,0,-4],[0,1,4]] 3 [1,4,4] v W hv hE (by decide) (by decide) (by decide) (fun W' hW'=>?_)).mono fun e w' ⟨u,h1,h2,h3⟩=>?_
  ·have h9:=minors_any [[1,0,-4],[0,1,4]] 2 v W' (hv.ext hW') hE (by decide) (by decide) (by decide +kernel) (minors_small hE (by decide) (by decide)) (hlib.pow.ext (hW.trans hW'))
   rw [k10_1] at h9
   exact h9
  ·obtain ⟨a,c,rfl,h4⟩:=multi_open h3
   exact ⟨a,c,h1,h4,h2⟩
 have HDU:Hid (∀ W a c,Ext w W→ListAt 1 numC W (.slice a 3 c) [1,4,4]→Calls Tryz.prog 28 #[.agg #[.int .i64 3,.int .i64 2,.slice a 3 c]] W fun e w'=>∃ a c,e=.returned (.tuple #[.agg #[.int .i64 3,.int .i64 1,.slice a 3 c],.int .i64 0])∧ListAt 1 numC w' (.slice a 3 c) [4,-4,1]∧Ext W w'):=fun W a c hW hv=>by
  refine (dualM_any (n:=3) (k:=2) (X:=[1,4,4]) (by decide) right1 _ W ⟨_,rfl,hv⟩).mono fun e w' ⟨u,h1,h2,h3⟩=>?_
  rw [k10_2] at h3
  obtain ⟨a,c,rfl,h4⟩:=multi_open h3
  exact ⟨a,c,h1,h4,h2⟩
 have HIN:Hid (∀ W a c v,Ext w W→ListAt 1 numC W (.slice a 3 c) [1,4,4]→Ints W v [1,0,0]→Calls Tryz.prog 25 #[.agg #[.int .i64 3,.int .i64 2,.slice a 3 c],v] W fun e w'=>∃ a c,e=.returned (.tuple #[.agg #[.int .i64 3,.int .i64 1,.slice a 3 c],.int .i64 0])∧ListAt 1 numC w' (.slice a 3 c) [0,1,4]∧Ext W w'):=fun W a c v hW hv hi=>by
  refine (intM_any (n:=3) (k:=2) (X:=[1,4,4]) (r:=[1,0,0]) (by decide) right1 (by decide) rfl (by decide) _ v W ⟨_,rfl,hv⟩ hi (hlib.pow.ext hW)).mono fun e w' ⟨u,h1,h2,h3⟩=>?_
  rw [k10_3] at h3
  obtain ⟨a,c,rfl,h4⟩:=multi_open h3
  exact ⟨a,c,h1,h4,h2⟩
 have HLA:Hid (∀ W a c,Ext w W→ListAt 1 numC W (.slice a 3 c) [1,4,4]→Calls Tryz.prog 36 #[.agg #[.int .i64 3,.int .i64 2,.slice a 3 c]] W fun e w'=>∃ v,e=.returned (.tuple #[v,.int .i64 0])∧Ext W w'∧Rows2 w' v [[1,0,-4],[0,1,4]]):=fun W a c hW hv=>by
  obtain ⟨R,hk,hl,hf⟩:=k10_4
  exact latM_ok 10 10 (n:=3) (k:=2) (X:=[1,4,4]) (by decide) (by decide) right1 _ W ⟨_,rfl,hv⟩ R _ (by decide +kernel) hk hl hf (by decide) (hlib.ext hW) (Nat.lt_of_lt_of_le hb hW.size)
 have HDE:Hid (∀ W v,Ext w W→ListAt 1 numC W v [1,0,0,0,0,1]→Calls Tryz.prog 35 #[.agg #[.int .i64 4,.int .i64 2,v]] W fun e w'=>e=.returned (.tuple #[.bool false,.int .i64 0])∧Ext W w'):=fun W v hW hv=>by
  obtain ⟨R,hk,hl⟩:=k10_5
  have h9:=decompM_any 10 (n:=4) (k:=2) (X:=[1,0,0,0,0,1]) (by decide) (by decide) right2 _ W ⟨_,rfl,hv⟩ R hk (hlib.pow.ext hW) (Nat.lt_of_lt_of_le hb hW.size)
  rw [decide_eq_false hl,decide_eq_false (show ¬ contL [1,0,0,0,0,1]=0 by decide +kernel)] at h9
  exact h9
 have HSA:Hid (∀ (W:World) (k:Nat) (a:Option Addr) (c:Nat) (v:Value) (X:List Int),ListAt 1 numC W (.slice a 3 c) X→ListAt 1 numC W v X→Calls Tryz.prog 17 #[.agg #[.int .i64 3,.int .i64 k,.slice a 3 c],.agg #[.int .i64 3,.int .i64 k,v]] W fun e w'=>e=.returned (.bool true)∧Ext W w'):=fun W k a c v X h1 h2=>by
  have h9:=sameM_any 3 k X 3 k X _ _ W ⟨_,rfl,h1⟩ ⟨_,rfl,h2⟩
  rw [show equalM 3 k X 3 k X=true by unfold equalM;simp] at h9
  exact h9
 obtain ⟨t0,t1,t4,t5⟩:=s10_1
 have HL1:Hid (∀ W:World,ListAt 1 numC (W.alloc (.cells #[.string ⟨#[49]⟩,.string ⟨#[52]⟩,.string ⟨#[52]⟩] 53)) (.slice (some ⟨W.heap.size,0,none⟩) 3 3) [1,4,4]):=fun W=>nums_lit W [1,4,4] _ _ 3 (by simp [t1,t4]) rfl (by decide)
 have HL2:Hid (∀ W:World,ListAt 1 numC (W.alloc (.cells #[.string ⟨#[52]⟩,.string ⟨#[45,52]⟩,.string ⟨#[49]⟩] 53)) (.slice (some ⟨W.heap.size,0,none⟩) 3 3) [4,-4,1]):=fun W=>nums_lit W [4,-4,1] _ _ 3 (by simp [t1,t4,t5]) rfl (by decide)
 have HL3:Hid (∀ W:World,ListAt 1 numC (W.alloc (.cells #[.string ⟨#[48]⟩,.string ⟨#[49]⟩,.string ⟨#[52]⟩] 53)) (.slice (some ⟨W.heap.size,0,none⟩) 3 3) [0,1,4]):=fun W=>nums_lit W [0,1,4] _ _ 3 (by simp [t0,t1,t4]) rfl (by decide)
 have HL4:Hid (∀ W:World,ListAt 1 numC (W.alloc (.cells #[.string ⟨#[49]⟩,.string ⟨#[48]⟩,.string ⟨#[48]⟩,.string ⟨#[48]⟩,.string ⟨#[48]⟩,.string ⟨#[49]⟩] 53)) (.slice (some ⟨W.heap.size,0,none⟩) 6 6) [1,0,0,0,0,1]):=fun W=>nums_lit W [1,0,0,0,0,1] _ _ 6 (by simp [t0,t1]) rfl (by decide)
 clear hlib hb t0 t1 t4 t5
 go_enter Tryz.func13,Tryz.ntmps13
 have hm1:=mat2W w [1,0,-4] [0,1,4] 3 3 rfl rfl 3 3 27 (by decide) (by decide) (by decide) #[.int .i64 1,.int .i64 0,.int .i64 (-4)] #[.int .i64 0,.int .i64 1,.int .i64 4] rfl rfl
 have HM1:=Lib.hid hm1
 clear hm1
 go_wp2_with fail
 refine (HOF.out _ _ ((Ext.alloc _ _).trans ((Ext.alloc _ _).trans (Ext.alloc _ _))) HM1.out).mono ?_
 rintro e w1 ⟨a1,c1,rfl,hR1,hE1⟩
 have HE1:=Lib.hid (((Ext.alloc w (.cells #[.int .i64 1,.int .i64 0,.int .i64 (-4)] 3)).trans ((Ext.alloc _ _).trans (Ext.alloc _ _))).trans hE1)
 have HR1:=Lib.hid hR1
 clear hE1 hR1 HM1 HOF
 obtain ⟨V1,hV1,hX1,hs1,hb1⟩:=boxM w1 (.int .i64 0) (.int .i64 0) (.slice none 0 0)
 have r0:=block_cell hb1
 have f0:=block_free hb1
 have HB1:=Lib.hid (multi_store hb1 (.int .i64 3) (.int .i64 2) (.slice a1 3 c1))
 have HX1:=Lib.hid (multi_ext (B:=w1.heap.size) hX1 (Nat.le_refl _) (.int .i64 3) (.int .i64 2) (.slice a1 3 c1))
 obtain ⟨U1,hU1⟩:∃ U,((V1.setCell ⟨w1.heap.size,0,none⟩ (.int .i64 3)).setCell ⟨w1.heap.size,1,none⟩ (.int .i64 2)).setCell ⟨w1.heap.size,2,none⟩ (.slice a1 3 c1)=U:=⟨_,rfl⟩
 rw [hU1] at HB1 HX1
 clear hX1 hs1 hb1
 have HEU1:Hid (Ext w U1):=HE1.out.trans HX1.out
 have HRU1:=Lib.hid (ListAt.ext numC.mono' HR1.out HX1.out)
 have s1:=block_cell HB1.out
 go_wp2_with fail
 clear hU1 hV1 r0 f0
 refine (HDU.out _ _ _ HEU1.out HRU1.out).mono ?_
 rintro e w2 ⟨a2,c2,rfl,hR2,hE2⟩
 have HE2:Hid (Ext w w2):=HEU1.out.trans hE2
 have HB12:=Lib.hid (block_ext HB1.out hE2)
 have HR12:=Lib.hid (ListAt.ext numC.mono' HRU1.out hE2)
 have HR2:=Lib.hid hR2
 clear hE2 hR2 HDU s1
 obtain ⟨V2,hV2,hX2,hs2,hb2⟩:=boxM w2 (.int .i64 0) (.int .i64 0) (.slice none 0 0)
 have r0:=block_cell hb2
 have f0:=block_free hb2
 have HB2:=Lib.hid (multi_store hb2 (.int .i64 3) (.int .i64 1) (.slice a2 3 c2))
 have HX2:=Lib.hid (multi_ext (B:=w2.heap.size) hX2 (Nat.le_refl _) (.int .i64 3) (.int .i64 1) (.slice a2 3 c2))
 obtain ⟨U2,hU2⟩:∃ U,((V2.setCell ⟨w2.heap.size,0,none⟩ (.int .i64 3)).setCell ⟨w2.heap.size,1,none⟩ (.int .i64 1)).setCell ⟨w2.heap.size,2,none⟩ (.slice a2 3 c2)=U:=⟨_,rfl⟩
 rw [hU2] at HB2 HX2
 clear hX2 hs2 hb2
 have HEU2:Hid (Ext w U2):=HE2.out.trans HX2.out
 have HRU2:=Lib.hid (ListAt.ext numC.mono' HR2.out HX2.out)
 have HB1U:=Lib.hid (block_ext HB12.out HX2.out)
 have HR1U:=Lib.hid (ListAt.ext numC.mono' HR12.out HX2.out)
 have s1:=block_cell HB1U.out
 have hx3:=Ints.lit U2 [1,0,0] 3 (by unfold maxLen;decide) (by decide)
 have e3:([1,0,0]:List Int).map (Value.int .i64)=[.int .i64 1,.int .i64 0,.int .i64 0]:=rfl
 rw [e3] at hx3
 have HX3I:=Lib.hid hx3
 obtain ⟨L3,hL3⟩:∃ L,U2.alloc (.cells #[.int .i64 1,.int .i64 0,.int .i64 0] 3)=L:=⟨_,rfl⟩
 have HL3E:Hid (Ext U2 L3):=by rw [← hL3];exact Ext.alloc _ _
 have HX3J:Hid (Ints L3 (.slice (some ⟨U2.heap.size,0,none⟩) 3 3) [1,0,0]):=by rw [← hL3];exact HX3I.out
 have HR1L:=Lib.hid (ListAt.ext numC.mono' HR1U.out HL3E.out)
 have HEL3:Hid (Ext w L3):=HEU2.out.trans HL3E.out
 clear hx3 e3 HX3I
 go_wp2_with fail
 clear hU2 hV2 r0 f0
 refine (HIN.out _ _ _ _ HEL3.out HR1L.out HX3J.out).mono ?_
 rintro e w3 ⟨a3,c3,rfl,hR3,hE3⟩
 have HX23:Hid (Ext U2 w3):=HL3E.out.trans hE3
 have HE3:Hid (Ext w w3):=HEU2.out.trans HX23.out
 have HB13:=Lib.hid (block_ext HB1U.out HX23.out)
 have HR13:=Lib.hid (ListAt.ext numC.mono' HR1U.out HX23.out)
 have HB23:=Lib.hid (block_ext HB2.out HX23.out)
 have HR23:=Lib.hid (ListAt.ext numC.mono' HRU2.out HX23.out)
 have HR3:=Lib.hid hR3
 clear hE3 hR3 HIN s1 hL3
 obtain ⟨V3,hV3,hX3,hs3,hb3⟩:=boxM w3 (.int .i64 0) (.int .i64 0) (.slice none 0 0)
 have r0:=block_cell hb3
 have f0:=block_free hb3
 have HB3:=Lib.hid (multi_store hb3 (.int .i64 3) (.int .i64 1) (.slice a3 3 c3))
 have HX3:=Lib.hid (multi_ext (B:=w3.heap.size) hX3 (Nat.le_refl _) (.int .i64 3) (.int .i64 1) (.slice a3 3 c3))
 obtain ⟨U3,hU3⟩:∃ U,((V3.setCell ⟨w3.heap.size,0,none⟩ (.int .i64 3)).setCell ⟨w3.heap.size,1,none⟩ (.int .i64 1)).setCell ⟨w3.heap.size,2,none⟩ (.slice a3 3 c3)=U:=⟨_,rfl⟩
 rw [hU3] at HB3 HX3
 clear hX3 hs3 hb3
 have HEU3:Hid (Ext w U3):=HE3.out.trans HX3.out
 have HRU3:=Lib.hid (ListAt.ext numC.mono' HR3.out HX3.out)
 have HB1V:=Lib.hid (block_ext HB13.out HX3.out)
 have HR1V:=Lib.hid (ListAt.ext numC.mono' HR13.out HX3.out)
 have HB2V:=Lib.hid (block_ext HB23.out HX3.out)
 have HR2V:=Lib.hid (ListAt.ext numC.mono' HR23.out HX3.out)
 have s1:=block_cell HB1V.out
 go_wp2_with fail
 clear hU3 hV3 r0 f0
 refine (HLA.out _ _ _ HEU3.out HR1V.out).mono ?_
 rintro e w4 ⟨v4,rfl,hE4,hR4⟩
 have HX34:Hid (Ext U3 w4):=hE4
 have HR4:=Lib.hid hR4
 obtain ⟨a4,c4,rfl,-⟩:=ListAt.open hR4
 obtain ⟨w5,hw5⟩:∃ L,w4.alloc (.cells #[.string ⟨#[49]⟩,.string ⟨#[48]⟩,.string ⟨#[48]⟩,.string ⟨#[48]⟩,.string ⟨#[48]⟩,.string ⟨#[49]⟩] 53)=L:=⟨_,rfl⟩
 have HL5:=Lib.hid (HL4.out w4)
 have HX45:Hid (Ext w4 w5):=by rw [← hw5];exact Ext.alloc _ _
 rw [hw5] at HL5
 clear hE4 hR4 HLA s1 HL4
 go_wp2_with fail
 clear hw5
 refine (HDE.out _ _ (HEU3.out.trans (HX34.out.trans HX45.out)) HL5.out).mono ?_
 rintro e w6 ⟨rfl,hE6⟩
 have HX46:Hid (Ext w4 w6):=HX45.out.trans hE6
 have HX36:Hid (Ext U3 w6):=HX34.out.trans HX46.out
 have HE6:Hid (Ext w w6):=HEU3.out.trans HX36.out
 have HB16:=Lib.hid (block_ext HB1V.out HX36.out);have HB26:=Lib.hid (block_ext HB2V.out HX36.out);have HB36:=Lib.hid (block_ext HB3.out HX36.out)
 have HR16:=Lib.hid (ListAt.ext numC.mono' HR1V.out HX36.out);have HR26:=Lib.hid (ListAt.ext numC.mono' HR2V.out HX36.out);have HR36:=Lib.hid (ListAt.ext numC.mono' HRU3.out HX36.out)
 have HR46:=Lib.hid (Rows2.ext HR4.out HX46.out)
 clear hE6 HDE
 have s1:=block_cell HB16.out
 obtain ⟨L6,hL6⟩:∃ L,w6.alloc (.cells #[.string ⟨#[49]⟩,.string ⟨#[52]⟩,.string ⟨#[52]⟩] 53)=L:=⟨_,rfl⟩
 have HN6:=Lib.hid (HL1.out w6)
 have HX6:Hid (Ext w6 L6):=by rw [← hL6];exact Ext.alloc _ _
 rw [hL6] at HN6
 go_wp2_with fail
 clear hL6
 refine (HSA.out _ 2 _ _ _ _ (ListAt.ext numC.mono' HR16.out HX6.out) HN6.out).mono ?_
 rintro e w7 ⟨rfl,hE7⟩
 have HX67:Hid (Ext w6 w7):=HX6.out.trans hE7
 have HE7:Hid (Ext w w7):=HE6.out.trans HX67.out
 have HB27:=Lib.hid (block_ext HB26.out HX67.out);have HB37:=Lib.hid (block_ext HB36.out HX67.out)
 have HR27:=Lib.hid (ListAt.ext numC.mono' HR26.out HX67.out);have HR37:=Lib.hid (ListAt.ext numC.mono' HR36.out HX67.out)
 have HR47:=Lib.hid (Rows2.ext HR46.out HX67.out)
 clear hE7 s1
 have s1:=block_cell HB27.out
 obtain ⟨L7,hL7⟩:∃ L,w7.alloc (.cells #[.string ⟨#[52]⟩,.string ⟨#[45,52]⟩,.string ⟨#[49]⟩] 53)=L:=⟨_,rfl⟩
 have HN7:=Lib.hid (HL2.out w7)
 have HX7:Hid (Ext w7 L7):=by rw [← hL7];exact Ext.alloc _ _
 rw [hL7] at HN7
 go_wp2_with fail
 clear hL7
 refine (HSA.out _ 1 _ _ _ _ (ListAt.ext numC.mono' HR27.out HX7.out) HN7.out).mono ?_
 rintro e w8 ⟨rfl,hE8⟩
 have HX78:Hid (Ext w7 w8):=HX7.out.trans hE8
 have HE8:Hid (Ext w w8):=HE7.out.trans HX78.out
 have HB38:=Lib.hid (block_ext HB37.out HX78.out)
 have HR38:=Lib.hid (ListAt.ext numC.mono' HR37.out HX78.out)
 have HR48:=Lib.hid (Rows2.ext HR47.out HX78.out)
 clear hE8 s1
 have s1:=block_cell HB38.out
 obtain ⟨L8,hL8⟩:∃ L,w8.alloc (.cells #[.string ⟨#[48]⟩,.string ⟨#[49]⟩,.string ⟨#[52]⟩] 53)=L:=⟨_,rfl⟩
 have HN8:=Lib.hid (HL3.out w8)
 have HX8:Hid (Ext w8 L8):=by rw [← hL8];exact Ext.alloc _ _
 rw [hL8] at HN8
 go_wp2_with fail
 clear hL8
 refine (HSA.out _ 1 _ _ _ _ (ListAt.ext numC.mono' HR38.out HX8.out) HN8.out).mono ?_
 rintro e w9 ⟨rfl,hE9⟩
 have HX89:Hid (Ext w8 w9):=HX8.out.trans hE9
 have HE9:Hid (Ext w w9):=HE8.out.trans HX89.out
 have HR49:=Lib.hid (Rows2.ext HR48.out HX89.out)
 clear hE9 s1
 have hm9:=mat2W w9 [1,0,-4] [0,1,4] 3 3 rfl rfl 3 3 27 (by decide) (by decide) (by decide) #[.int .i64 1,.int .i64 0,.int .i64 (-4)] #[.int .i64 0,.int .i64 1,.int .i64 4] rfl rfl
 have HQ9:=Lib.hid (refEqual6_any [[1,0,-4],[0,1,4]] [[1,0,-4],[0,1,4]] _ _ _ (HR49.out.ext ((Ext.alloc _ _).trans ((Ext.alloc _ _).trans (Ext.alloc _ _)))) hm9)
 have hbt:(([[1,0,-4],[0,1,4]]:List (List Int)) == [[1,0,-4],[0,1,4]])=true:=by decide
 rw [hbt] at HQ9
 clear hm9 hbt
 go_wp2_with fail
 refine HQ9.out.mono ?_
 rintro e w10 ⟨rfl,hE10⟩
 have HE10:Hid (Ext w w10):=HE9.out.trans (((Ext.alloc w9 (.cells #[.int .i64 1,.int .i64 0,.int .i64 (-4)] 3)).trans ((Ext.alloc _ _).trans (Ext.alloc _ _))).trans hE10)
 clear hE10 HQ9
 go_wp2_with fail
 go_ret
 exact ⟨rfl,HE10.out⟩
end Go.Proofs.YtjlkkofmojgipaaGreatDoor
