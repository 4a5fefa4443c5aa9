import Derived.Test.YtjlkkofmojgipaaGreatDoorPAL
import Derived.Deep.CutRange
import Derived.Test.YtjlkkofmojgipaaGreatDoorPAA
namespace Go.Proofs.YtjlkkofmojgipaaGreatDoor
set_option linter.unusedVariables false
set_option linter.unusedSimpArgs false
open Go.RowKit
theorem intB_one:intB 1=⟨#[49]⟩:=by unfold intB Lib.itoa;rw [if_neg (by omega),show (1:Int).toNat=1 from rfl,Lib.decDigits_one (by omega)];rfl
theorem numB_one:numB 1=⟨#[49]⟩:=by unfold numB;rw [Lib.decDigits_one (by omega)];rfl
theorem intB_zero:intB 0=⟨#[48]⟩:=by unfold intB Lib.itoa;rw [if_neg (by omega),show (0:Int).toNat=0 from rfl,Lib.decDigits_one (by omega)];rfl
theorem ratV_one:ratV 1=.agg #[.string ⟨#[49]⟩,.string ⟨#[49]⟩]:=by
 show Value.agg #[.string (intB 1),.string (numB 1)]=_
 rw [intB_one,numB_one]
theorem ratV_zero:ratV 0=.agg #[.string ⟨#[48]⟩,.string ⟨#[49]⟩]:=by
 show Value.agg #[.string (intB 0),.string (numB 1)]=_
 rw [intB_zero,numB_one]
theorem tone_any (w:World):Calls Tryz.prog 159 #[] w fun e w'=>e=.returned (ratV 1)∧Ext w w':=by
 rw [ratV_one]
 go_enter Tryz.func159,Tryz.ntmps159
 go_wp2
 refine bodyPost_ret (results_cell_row (by rfl) _ _ w.heap.size 152 #[.string ⟨#[49]⟩,.string ⟨#[49]⟩] (0,0) _ (by rfl) (heap_alloc_new _ _) Tryz.underlying152 (by rfl) (by kernel_rfl)) (by rfl) ⟨rfl,Ext.alloc _ _⟩
theorem tzero_any (w:World):Calls Tryz.prog 161 #[] w fun e w'=>e=.returned (ratV 0)∧Ext w w':=by
 rw [ratV_zero]
 go_enter Tryz.func161,Tryz.ntmps161
 go_wp2
 refine bodyPost_ret (results_cell_row (by rfl) _ _ w.heap.size 152 #[.string ⟨#[48]⟩,.string ⟨#[49]⟩] (0,0) _ (by rfl) (heap_alloc_new _ _) Tryz.underlying152 (by rfl) (by kernel_rfl)) (by rfl) ⟨rfl,Ext.alloc _ _⟩
theorem grown_new {S S':Nat→Prop} {w w1 w2:World} (h:GrownS S w w1) (g:GrownS S' w1 w2) (hS:∀ b,S' b→w.heap.size≤b∨S b):GrownS S w w2 :=
 ⟨g.os.trans h.os,g.tape.trans h.tape,g.output.trans h.output,Nat.le_trans h.size g.size,fun k hk hn=>(g.block k (Nat.lt_of_lt_of_le hk h.size) (fun hs=>by
  rcases hS k hs with h1 | h1
  ·omega
  ·exact hn h1)).trans (h.block k hk hn)⟩
def BoxQ (w:World) (D:Nat) (q:Rat):Prop:=w.heap[D]?=some (.cells #[.string (intB q.num),.string (numB q.den)] 152 (0,0))
theorem BoxQ.ext {w w':World} {D:Nat} {q:Rat} (h:BoxQ w D q) (he:Ext w w'):BoxQ w' D q:=block_ext h he
theorem BoxQ.grown {w w':World} {S:Nat→Prop} {D:Nat} {q:Rat} (h:BoxQ w D q) (hg:GrownS S w w') (hS:¬ S D):BoxQ w' D q:=(hg.block D (block_lt h) hS).trans h
theorem BoxQ.cells {w:World} {D:Nat} {q:Rat} (h:BoxQ w D q):w.cell? ⟨D,0,none⟩=some (.string (intB q.num))∧w.cell? ⟨D,1,none⟩=some (.string (numB q.den))∧w.frozen? ⟨D,0,none⟩=false∧w.frozen? ⟨D,1,none⟩=false:=by
 obtain ⟨a,b,c⟩:=block2_cell h;exact ⟨a,b,c 0,c 1⟩
theorem BoxQ.set {w:World} {D:Nat} {q:Rat} (h:BoxQ w D q) (r:Rat):BoxQ ((w.setCell ⟨D,0,none⟩ (.string (intB r.num))).setCell ⟨D,1,none⟩ (.string (numB r.den))) D r:=block2_set h
def OwnI (B:Nat) (w:World) (v:Value) (l:List Nat):Prop:=w.ownsRow B 3 1 v l.length (l.map fun c:Nat=>Value.int .i64 (c:Int))
theorem OwnI.nil (B:Nat) (w:World):OwnI B w (.slice none 0 0) []:=World.ownsRow_nil w B 3 1
theorem OwnI.ext {B:Nat} {w w':World} {v:Value} {l:List Nat} (h:OwnI B w v l) (he:Ext w w'):OwnI B w' v l:=owns_ext h he
theorem OwnI.lt {B:Nat} {w:World} {v:Value} {l:List Nat} (h:OwnI B w v l):∀ b,v.ownBlock=some b→B≤b∧b<w.heap.size:=World.ownsRow.lt h
theorem OwnI.form {B:Nat} {w:World} {v:Value} {l:List Nat} (h:OwnI B w v l):∃ a cap,v=.slice a l.length cap∧l.length≤cap∧cap≤9223372036854775807:=by
 rcases h.2 with ⟨rfl,hn⟩ | ⟨g,cap,cur,rfl,hb,hg,h1,h2,h3,h4⟩
 ·exact ⟨none,0,by rw [hn],by omega,by omega⟩
 ·exact ⟨_,cap,rfl,h1,h2⟩
theorem OwnI.grown {S:Nat→Prop} {B:Nat} {w w':World} {v:Value} {l:List Nat} (h:OwnI B w v l) (hg:GrownS S w w') (hS:∀ b,S b→b<B):OwnI B w' v l:=by
 refine ⟨h.1,?_⟩
 rcases h.2 with h' | ⟨g,cap,cur,rfl,hb,hgg,rest⟩
 ·exact .inl h'
 ·exact .inr ⟨g,cap,cur,rfl,hb,(hg.block g (Array.getElem?_eq_some_iff.1 hgg).1 (fun hs=>by have:=hS g hs;omega)).trans hgg,rest⟩
def idxR (_:World) (u:List Value) (x:Nat):Prop:=u=[.int .i64 (x:Int)]
theorem OwnI.build {B:Nat} {w:World} {v:Value} {l:List Nat} (h:OwnI B w v l):Build w B 3 1 v idxR l:=by
 refine ⟨l.map fun x:Nat=>[Value.int .i64 (x:Int)],by simp,by simp,?_,?_⟩
 ·rw [flatten_one];exact h
 ·intro j u x hu hx w' _
  simp only [List.getElem?_map,hx,Option.map_some,Option.some.injEq] at hu
  exact hu.symm
theorem Build.ownI {B:Nat} {w:World} {v:Value} {l:List Nat} (h:Build w B 3 1 v idxR l):OwnI B w v l:=by
 obtain ⟨us,h1,h2,h3,h4⟩:=h
 have:us=l.map fun x:Nat=>[Value.int .i64 (x:Int)]:=by
  apply List.ext_getElem?
  intro i
  rw [List.getElem?_map]
  by_cases hi:i<l.length
  ·have hi2:i<us.length:=by omega
   have:=(h4 i us[i] l[i] (by simp [hi2]) (by simp [hi])).now
   simp only [idxR] at this
   simp [hi,hi2,this]
  ·rw [List.getElem?_eq_none (by omega),List.getElem?_eq_none (by omega)];rfl
 rw [this,flatten_one] at h3
 exact h3
theorem rat_sign_zero (x:Rat):(x.num.sign == 0)=decide (x=0):=by
 rw [Bool.eq_iff_iff,beq_iff_eq,decide_eq_true_iff,Int.sign_eq_zero_iff_zero,Rat.num_eq_zero]
structure MidR (w0 wr:World) (g0 D:Nat) (tags0:List (Nat×Nat)) (m1:List (List Rat)) (d1:Rat) (v:Value) (ld:List Nat) (tags:List (Nat×Nat)):Prop where
 mat:MatQ wr g0 tags m1
 box:BoxQ wr D d1
 lead:OwnI (D+1) wr v ld
 same:∀ b,blocksQ g0 tags b↔blocksQ g0 tags0 b
 grown:GrownS (blocksQ g0 tags0) w0 wr
 size:D<wr.heap.size
theorem MidR.ext {w0 wr w':World} {g0 D:Nat} {tags0:List (Nat×Nat)} {m1:List (List Rat)} {d1:Rat} {v:Value} {ld:List Nat} {tags:List (Nat×Nat)} (h:MidR w0 wr g0 D tags0 m1 d1 v ld tags) (he:Ext wr w'):MidR w0 w' g0 D tags0 m1 d1 v ld tags :=
 ⟨h.mat.ext he,h.box.ext he,h.lead.ext he,h.same,h.grown.trans (he.grownS _),Nat.lt_of_lt_of_le h.size he.size⟩
theorem MidR.setBox {w0 wr:World} {g0 D:Nat} {tags0:List (Nat×Nat)} {m1:List (List Rat)} {d1:Rat} {v:Value} {ld:List Nat} {tags:List (Nat×Nat)} (h:MidR w0 wr g0 D tags0 m1 d1 v ld tags) (hb:∀ b,blocksQ g0 tags b→b<D) (hD:w0.heap.size≤D) (q:Rat) :
  MidR w0 ((wr.setCell ⟨D,0,none⟩ (.string (intB q.num))).setCell ⟨D,1,none⟩ (.string (numB q.den))) g0 D tags0 m1 q v ld tags:=by
 have hgr:GrownS (·=D) wr ((wr.setCell ⟨D,0,none⟩ (.string (intB q.num))).setCell ⟨D,1,none⟩ (.string (numB q.den))):=((GrownS.refl (·=D) wr).store (S:=(·=D)) rfl _ _).store (S:=(·=D)) rfl _ _
 exact ⟨h.mat.grown hgr (fun b hb' e=>by have:=hb b hb';omega),h.box.set q,h.lead.grown hgr (fun b e=>by omega),h.same,grown_new h.grown hgr (fun b e=>.inl (by omega)),by rw [setCell_sizeQ,setCell_sizeQ];exact h.size⟩
structure RedAt (w0 wr:World) (g0 D:Nat) (tags0:List (Nat×Nat)) (m0:List (List Rat)) (c:Nat) (v:Value) (tags:List (Nat×Nat)):Prop where
 mat:MatQ wr g0 tags (redTo m0 c).m
 box:BoxQ wr D (redTo m0 c).det
 lead:OwnI (D+1) wr v (redTo m0 c).lead
 same:∀ b,blocksQ g0 tags b↔blocksQ g0 tags0 b
 grown:GrownS (blocksQ g0 tags0) w0 wr
 size:D<wr.heap.size
theorem RedAt.mid {w0 wr:World} {g0 D:Nat} {tags0:List (Nat×Nat)} {m0:List (List Rat)} {c:Nat} {v:Value} {tags:List (Nat×Nat)} (h:RedAt w0 wr g0 D tags0 m0 c v tags):MidR w0 wr g0 D tags0 (redTo m0 c).m (redTo m0 c).det v (redTo m0 c).lead tags :=
 ⟨h.mat,h.box,h.lead,h.same,h.grown,h.size⟩
theorem MidR.redOf {w0 wr:World} {g0 D:Nat} {tags0:List (Nat×Nat)} {m0 m1:List (List Rat)} {d1:Rat} {c:Nat} {v:Value} {ld:List Nat} {tags:List (Nat×Nat)} (h:MidR w0 wr g0 D tags0 m1 d1 v ld tags) (e:redTo m0 c=⟨m1,ld,d1⟩):RedAt w0 wr g0 D tags0 m0 c v tags :=
 ⟨by rw [e];exact h.mat,by rw [e];exact h.box,by rw [e];exact h.lead,h.same,h.grown,h.size⟩
theorem OwnI.low {B B':Nat} {w:World} {v:Value} {l:List Nat} (h:OwnI B w v l) (hb:B'≤B):OwnI B' w v l:=by
 refine ⟨h.1,?_⟩
 rcases h.2 with h' | ⟨g,cap,cur,rfl,hg,rest⟩
 ·exact .inl h'
 ·exact .inr ⟨g,cap,cur,rfl,Nat.le_trans hb hg,rest⟩
theorem stepR_none {c:Nat} {m:List (List Rat)} {ld:List Nat} {d:Rat} (h:findP m c (m.length-ld.length) ld.length=m.length):stepR c ⟨m,ld,d⟩=⟨m,ld,0⟩:=by
 unfold stepR;exact if_pos h
theorem stepR_some {c a:Nat} {m m1:List (List Rat)} {ld:List Nat} {d d1 f:Rat} {r:List Rat} (h:findP m c (m.length-ld.length) ld.length=a) (ha:a≠m.length) (hm:m1=if a=ld.length then m else swp m ld.length a) (hd:d1=if a=ld.length then d else -d) (hr:r=rowQ m1 ld.length) (hf:f=elQ m1 ld.length c) :
  stepR c ⟨m,ld,d⟩=⟨elimTo (m1.set ld.length (divRow r f)) (divRow r f) c ld.length (m1.set ld.length (divRow r f)).length,ld++[c],d1*f⟩:=by
 subst h hf hr hm hd
 unfold stepR
 exact if_neg ha
theorem elQ_pivot {m:List (List Rat)} {k a c:Nat} (hk:k<m.length) (ha:a<m.length):elQ (if a=k then m else swp m k a) k c=elQ m a c:=by
 by_cases e:a=k
 ·rw [if_pos e,e]
 ·rw [if_neg e]
  unfold elQ
  rw [rowQ_get (m:=swp m k a) (i:=k) (r:=rowQ m a)]
  rw [swp_get (get_rowQ hk) (get_rowQ ha),if_neg (fun x=>e x.symm),if_pos rfl]
theorem results_tmp_cell {P:Program} {fn:Func} {p s:Tmp} {ty:TypeId} (h:fn.results=#[.tmp s,.cell p ty]) (tmps:Array Value) (w:World) (g:Nat) (t:TypeId) (cs:Array Value) (fr:Nat×Nat) (d:TypeDesc) (v:Value)
  (hp:tmps.getD p undef=.pointer (some ⟨g,0,none⟩)) (hs:tmps.getD s undef=v) (hg:w.heap[g]?=some (.cells cs t fr))
  (hu:P.underlying ty=some d) (hd:(match d with | .struct _ | .array _ _=>true | _=>false)=true) (hi:(P.info? ty).map (·.size)=some cs.size) :
  (results fn tmps).run P w=.ok (.tuple #[v,.agg cs]) w:=by
 have hp':tmps[p]?.getD undef=.pointer (some ⟨g,0,none⟩):=by simpa using hp
 have hs':tmps[s]?.getD undef=v:=by simpa using hs
 simp [results,h,hp',hs',asAddr,run_loadVar_row w g t ty cs fr d hg hu hd hi]
theorem set_same {α:Type} {l:List α} {i:Nat} {a:α} (h:l[i]?=some a):l.set i a=l:=by
 apply List.ext_getElem?
 intro j
 rw [List.getElem?_set]
 by_cases e:i=j
 ·subst e
  rw [if_pos rfl,if_pos (List.getElem?_eq_some_iff.1 h).1,h]
 ·rw [if_neg e]
theorem set_get {α:Type} {l:List α} {i:Nat} {a b:α} (h:l[i]?=some a):(l.set i b)[i]?=some b:=by
 rw [List.getElem?_set,if_pos rfl,if_pos (List.getElem?_eq_some_iff.1 h).1]
theorem MidR.setEl {w0 wr:World} {g0 D:Nat} {tags0:List (Nat×Nat)} {m:List (List Rat)} {d:Rat} {v:Value} {ld:List Nat} {tags:List (Nat×Nat)} (h:MidR w0 wr g0 D tags0 m d v ld tags) (hb:∀ b,blocksQ g0 tags b→b<D)
  {i j:Nat} {t:Nat×Nat} {r:List Rat} (ht:tags[i]?=some t) (hr:m[i]?=some r) (hj:j<r.length) (q:Rat) :
  MidR w0 ((wr.setCell ⟨t.1,j*2,none⟩ (.string (intB q.num))).setCell ⟨t.1,j*2+1,none⟩ (.string (numB q.den))) g0 D tags0 (m.set i (r.set j q)) d v ld tags ∧
   ∀ F x,BoxQ wr F x→D≤F→BoxQ ((wr.setCell ⟨t.1,j*2,none⟩ (.string (intB q.num))).setCell ⟨t.1,j*2+1,none⟩ (.string (numB q.den))) F x:=by
 have hgr:GrownS (·=t.1) wr ((wr.setCell ⟨t.1,j*2,none⟩ (.string (intB q.num))).setCell ⟨t.1,j*2+1,none⟩ (.string (numB q.den))):=((GrownS.refl (·=t.1) wr).store (S:=(·=t.1)) rfl _ _).store (S:=(·=t.1)) rfl _ _
 obtain ⟨t',ht',-,-,-,hR,hne,hbq⟩:=h.mat.get hr
 obtain rfl:t'=t:=Option.some.inj (ht'.symm.trans ht)
 have hlt:=hb _ hbq
 exact ⟨⟨h.mat.setRow ht hr (by rw [List.length_set]) hgr (hR.set j hj q),h.box.grown hgr (fun e=>by omega),h.lead.grown hgr (fun b e=>by omega),h.same,h.grown.trans (hgr.weak fun b _ e=>by rw [e];exact (h.same _).1 hbq),by rw [setCell_sizeQ,setCell_sizeQ];exact h.size⟩,
  fun F x hF hDF=>hF.grown hgr (fun e=>by omega)⟩
theorem MidR.push {w0 wr w':World} {g0 D:Nat} {tags0:List (Nat×Nat)} {m:List (List Rat)} {d:Rat} {v v':Value} {ld ld':List Nat} {tags:List (Nat×Nat)} (h:MidR w0 wr g0 D tags0 m d v ld tags) (hb:∀ b,blocksQ g0 tags b→b<D) (hD:w0.heap.size≤D)
  (hB:Below (D+1) wr w') (hv:OwnI (D+1) w' v' ld'):MidR w0 w' g0 D tags0 m d v' ld' tags:=by
 have hgr:GrownS (fun b=>D+1≤b) wr w':=⟨hB.os,hB.tape,hB.output,hB.size,fun k hk hn=>hB.block k (by omega)⟩
 exact ⟨h.mat.grown hgr (fun b hb' e=>by have:=hb b hb';omega),h.box.grown hgr (fun e=>by omega),hv,h.same,grown_new h.grown hgr (fun b e=>.inl (by omega)),Nat.lt_of_lt_of_le h.size hB.size⟩
set_option maxRecDepth 100000 in
set_option maxHeartbeats 16000000 in
theorem reduce_any (m0:List (List Rat)) (g0 cap0 n C:Nat) (tags0:List (Nat×Nat)) (wb w:World) (hM:MatQ w g0 tags0 m0) (hC:Rect C m0) (hn:n≤C) (hC2:C≤1000) (hl:m0.length≤1000) (hcap:m0.length≤cap0) (hcap2:cap0≤9223372036854775807)
  (hok:∀ c,c<n→AllRS 2500 (redTo m0 c).m∧RS 9000 (redTo m0 c).det) (hwb:Ext wb w) (ht:Pow10 wb) (hbl:∀ b,blocksQ g0 tags0 b→wb.heap.size≤b) :
  Calls Tryz.prog 109 #[.slice (some ⟨g0,0,none⟩) m0.length cap0,.int .i64 n] w fun e w'=>∃ v tags,e=.returned (.tuple #[v,ratV (redTo m0 n).det])∧OwnI w.heap.size w' v (redTo m0 n).lead∧MatQ w' g0 tags (redTo m0 n).m∧(∀ b,blocksQ g0 tags b↔blocksQ g0 tags0 b)∧GrownS (blocksQ g0 tags0) w w':=by
 have HM:=Lib.hid hM;have HC:=Lib.hid hC;have HOK:=Lib.hid hok;have HWB:=Lib.hid hwb;have HT:=Lib.hid ht;have HBL:=Lib.hid hbl
 have HSH:=Lib.hid (redTo_shape hC)
 obtain ⟨L,hL⟩:∃ L,L=m0.length:=⟨_,rfl⟩
 rw [← hL] at hl hcap HSH ⊢
 have HL:=Lib.hid hL
 obtain ⟨W1,hW1,hE1,hs1,hb1⟩:=box2 w (.string ⟨#[]⟩) (.string ⟨#[]⟩) 152
 have HE1:=Lib.hid hE1
 have HB1:Hid (∀ W,Ext W1 W→BlkR w.heap.size W):=fun W hW=>BlkR.ext ⟨_,_,hb1⟩ hW
 have HS1:=Lib.hid hs1
 have HBW:Hid (∀ b,blocksQ g0 tags0 b→b<w.heap.size):=fun b hb=>hM.blt hb
 obtain ⟨r0,r1,rf⟩:=block2_cell hb1
 clear hM hC hok hwb ht hbl hL hE1 hs1 hb1 rf
 go_enter Tryz.func109,Tryz.ntmps109
 go_wp2_with fail
 refine (tone_any _).mono ?_
 rintro e w2 ⟨rfl,hE2⟩
 have HE2:=Lib.hid hE2
 obtain ⟨q0,q1,t0,t1,f0,f1⟩:=(HB1.out _ hE2).open
 have hbx:=(HB1.out _ hE2)
 rw [ratV_one]
 have HR0:Hid (RedAt w ((w2.setCell ⟨w.heap.size,0,none⟩ (.string ⟨#[49]⟩)).setCell ⟨w.heap.size,1,none⟩ (.string ⟨#[49]⟩)) g0 w.heap.size tags0 m0 0 (.slice none 0 0) tags0):=by
  have hgr:GrownS (·=w.heap.size) w2 ((w2.setCell ⟨w.heap.size,0,none⟩ (.string ⟨#[49]⟩)).setCell ⟨w.heap.size,1,none⟩ (.string ⟨#[49]⟩)):=((GrownS.refl (·=w.heap.size) w2).store (S:=(·=w.heap.size)) rfl _ _).store (S:=(·=w.heap.size)) rfl _ _
  refine ⟨(HM.out.ext (HE1.out.trans hE2)).grown hgr (fun b hb e=>by have:=HBW.out b hb;omega),?_,OwnI.nil _ _,fun b=>Iff.rfl,?_,?_⟩
  ·have:=hbx.res (x:=.string ⟨#[49]⟩) (y:=.string ⟨#[49]⟩)
   unfold BoxQ
   rw [this]
   show some (Obj.cells #[.string ⟨#[49]⟩,.string ⟨#[49]⟩] 152 (0,0))=some (Obj.cells #[.string (intB 1),.string (numB 1)] 152 (0,0))
   rw [intB_one,numB_one]
  ·exact grown_new ((HE1.out.trans hE2).grownS _) hgr (fun b hb=>.inl (by omega))
  ·rw [setCell_sizeQ,setCell_sizeQ];have:=hE2.size;have:=HS1.out;omega
 clear hE2 hbx r0 r1
 go_wp2_with fail
 clear q0 q1 t0 t1 f0 f1
 go_loopw [16,4] (fun t v wr=>∃ (c:Nat) (tags:List (Nat×Nat)),c≤n∧t=.int .i64 c∧Hid (RedAt w wr g0 w.heap.size tags0 m0 c v tags)) (fun t _ _=>n-(intOf t).toNat)
 case atStart=>exact ⟨0,tags0,by omega,rfl,HR0.out⟩
 case round =>
  obtain ⟨c,tags,hc,rfl,HR⟩:=hrel
  obtain ⟨wo,rfl⟩:∃ wo:World,wo=wr:=⟨_,rfl⟩
  clear HR0 HE2
  have HP:=Lib.hid (HR.out.grown)
  have HEB:Hid (Ext wb wo):=Below.trans HWB.out (HR.out.grown.belowE (B:=wb.heap.size) HBL.out HWB.out.size)
  obtain ⟨av,cv,hv,hv1,hv2⟩:=HR.out.lead.form
  obtain ⟨k,hk⟩:∃ k,k=(redTo m0 c).lead.length:=⟨_,rfl⟩
  rw [← hk] at hv hv1
  have HK:=Lib.hid hk
  have hkL:k≤L:=by rw [hk];exact (HSH.out c).2.2
  subst hv
  clear hk
  by_cases hlt:c<n
  ·obtain ⟨hA,hD⟩:=HOK.out c hlt
   have HA:=Lib.hid hA;have HD:=Lib.hid hD
   obtain ⟨m,hm⟩:∃ m,m=(redTo m0 c).m:=⟨_,rfl⟩
   obtain ⟨d,hd⟩:∃ d,d=(redTo m0 c).det:=⟨_,rfl⟩
   obtain ⟨ld,hld⟩:∃ ld,ld=(redTo m0 c).lead:=⟨_,rfl⟩
   have HMM:=HR.out.mat
   have HBB:=HR.out.box
   have HLD:=HR.out.lead
   rw [← hm] at HMM HA
   rw [← hd] at HBB HD
   rw [← hld] at HLD HK
   have HMM:=Lib.hid HMM;have HBB:=Lib.hid HBB;have HLD:=Lib.hid HLD
   have HRC:Hid (Rect C m∧m.length=L):=by unfold Hid;rw [hm];exact ⟨(HSH.out c).1,(HSH.out c).2.1⟩
   have HST:Hid (redTo m0 (c+1)=stepR c ⟨m,ld,d⟩):=by unfold Hid;rw [hm,hd,hld];rfl
   have HSAME:=Lib.hid HR.out.same
   have HDS:=Lib.hid HR.out.size
   have HBG:Hid (∀ b,blocksQ g0 tags b→b<w.heap.size):=fun b hb=>HBW.out b ((HR.out.same b).1 hb)
   clear hm hd hld hA hD HR
   go_wp2_with fail
   go_loopw [7] (fun t wr=>∃ a:Nat,t=.int .i64 a∧k≤a∧a≤L∧Hid (∀ j,k≤j→j<a→elQ m j c=0)∧Hid (Ext wo wr)) (fun t _=>L-(intOf t).toNat)
   case atStart=>exact ⟨k,rfl,by omega,hkL,(fun j h1 h2=>by omega),Ext.refl _⟩
   case round =>
    obtain ⟨a,rfl,hka,haL,HZ,HE⟩:=hrel
    obtain ⟨wi,rfl⟩:∃ wi:World,wi=wr:=⟨_,rfl⟩
    by_cases hal:a<L
    ·have hr:m[a]?=some (rowQ m a):=get_rowQ (by have:=HRC.out.2;omega)
     obtain ⟨t,ht,c1,h1,h2,hrow,hne,hbq⟩:=HMM.out.get hr
     have hrl:=HRC.out.1.get hr
     have hcl:c<(rowQ m a).length:=by omega
     have hx:(rowQ m a)[c]?=some (elQ m a c):=by rw [elQ_get (List.getElem?_eq_getElem hcl)];exact List.getElem?_eq_getElem hcl
     have g1:=HE.out.cell c1
     have g2:=HE.out.cell (hrow.num c _ hx)
     have g3:=HE.out.cell (hrow.den c _ hx)
     have HRL:=Lib.hid hrl
     rw [hrl] at g1 h1
     have hcC:c<C:=by omega
     have HSG:Hid (∀ W,Calls Tryz.prog 160 #[.agg #[.string (intB (elQ m a c).num),.string (numB (elQ m a c).den)]] W fun e w'=>e=.returned (.int .i64 (elQ m a c).num.sign)∧Ext W w'):=fun W=>ratSign_any (elQ m a c) W
     have hsz:=rat_sign_zero (elQ m a c)
     clear hr ht c1 hrow hne hbq hrl hcl hx
     by_cases hx0:elQ m a c=0
     ·have HZ2:Hid (∀ j,k≤j→j<a+1→elQ m j c=0):=fun j h1 h2=>by
       by_cases e:j=a
       ·rw [e];exact hx0
       ·exact HZ.out j h1 (by omega)
      rw [decide_eq_true hx0] at hsz
      obtain ⟨sg,hsg⟩:∃ sg,sg=(elQ m a c).num.sign:=⟨_,rfl⟩
      rw [← hsg] at HSG hsz
      clear hx0 hsg
      go_wp2_with fail
      refine (HSG.out _).mono ?_
      rintro e w3 ⟨rfl,hE3⟩
      have HE3:=Lib.hid (Ext.trans HE.out hE3)
      clear hE3 HSG g1 g2 g3
      go_wp2_with fail
      go_roundw
      case rel=>exact ⟨a+1,by go_num,by omega,by omega,HZ2.out,HE3.out⟩
      case measure=>simp [intOf];omega
     ·rw [decide_eq_false hx0] at hsz
      obtain ⟨sg,hsg⟩:∃ sg,sg=(elQ m a c).num.sign:=⟨_,rfl⟩
      rw [← hsg] at HSG hsz
      have HX0:=Lib.hid hx0
      clear hx0 hsg
      have haL2:¬ a=L:=by omega
      go_wp2_with fail
      refine (HSG.out _).mono ?_
      rintro e w3 ⟨rfl,hE3⟩
      have HE3:=Lib.hid (Ext.trans HE.out hE3)
      clear hE3 HSG g1 g2 g3 HE
      have HMID:Hid (MidR w w3 g0 w.heap.size tags0 m d (.slice av k cv) ld tags) :=
       ⟨HMM.out.ext HE3.out,HBB.out.ext HE3.out,HLD.out.ext HE3.out,HSAME.out,HP.out.trans (HE3.out.grownS _),Nat.lt_of_lt_of_le HDS.out HE3.out.size⟩
      have hbL:((a:Int) == (L:Int))=false:=by rw [beq_eq_false_iff_ne];omega
      obtain ⟨bak,hbak⟩:∃ b,((a:Int) != (k:Int))=b:=⟨_,rfl⟩
      have HSWP:Hid (a≠k→∀ W,Ext w3 W→∃ s t,tags[k]?=some s∧tags[a]?=some t∧W.cell? ⟨g0,k,none⟩=some (.slice (some ⟨s.1,0,none⟩) C s.2)∧W.cell? ⟨g0,a,none⟩=some (.slice (some ⟨t.1,0,none⟩) C t.2)∧W.frozen? ⟨g0,k,none⟩=false∧W.frozen? ⟨g0,a,none⟩=false∧C≤s.2∧C≤t.2∧s.2≤9223372036854775807∧t.2≤9223372036854775807 ∧
        MidR w ((W.setCell ⟨g0,k,none⟩ (.slice (some ⟨t.1,0,none⟩) C t.2)).setCell ⟨g0,a,none⟩ (.slice (some ⟨s.1,0,none⟩) C s.2)) g0 w.heap.size tags0 (swp m k a) d (.slice av k cv) ld (swp tags k a)∧(∀ b,blocksQ g0 (swp tags k a) b→b<w.heap.size)):=by
       intro hne W hW
       have hmid:=HMID.out.ext hW
       have hk2:m[k]?=some (rowQ m k):=get_rowQ (by have:=HRC.out.2;omega)
       have ha2:m[a]?=some (rowQ m a):=get_rowQ (by have:=HRC.out.2;omega)
       obtain ⟨s,hs,c1,h1,h2,-⟩:=hmid.mat.get hk2
       obtain ⟨t,ht,c3,h3,h4,-⟩:=hmid.mat.get ha2
       have e1:=HRC.out.1.get hk2
       have e2:=HRC.out.1.get ha2
       have hsw:=hmid.mat.swap hs ht hk2 ha2
       rw [e1] at c1 h1 hsw
       rw [e2] at c3 h3 hsw
       have hgr:GrownS (·=g0) W ((W.setCell ⟨g0,k,none⟩ (.slice (some ⟨t.1,0,none⟩) C t.2)).setCell ⟨g0,a,none⟩ (.slice (some ⟨s.1,0,none⟩) C s.2)):=((GrownS.refl (·=g0) W).store (S:=(·=g0)) rfl _ _).store (S:=(·=g0)) rfl _ _
       have hg0:blocksQ g0 tags0 g0:=List.mem_cons_self ..
       have hgl:=HBW.out g0 hg0
       refine ⟨s,t,hs,ht,c1,c3,hmid.mat.free k,hmid.mat.free a,h1,h3,h2,h4,⟨hsw,hmid.box.grown hgr (fun e=>by omega),hmid.lead.grown hgr (fun b e=>by omega),fun b=>(swp_blocks hs ht).trans (hmid.same b),hmid.grown.trans (hgr.weak fun b _ e=>by rw [e];exact hg0),by rw [setCell_sizeQ,setCell_sizeQ];exact hmid.size⟩,fun b hb=>HBW.out b ((hmid.same b).1 ((swp_blocks hs ht).1 hb))⟩
      have HBK:=Lib.hid hbak
      go_upto_if 47 with (fail)
      go_cut [] from 48 to 63 (fun wx=>Hid (∃ tags1,MidR w wx g0 w.heap.size tags0 (if a=k then m else swp m k a) (if a=k then d else -d) (.slice av k cv) ld tags1))
      case first =>
       by_cases hak:a=k
       ·have hb:bak=false:=by rw [← HBK.out,hak];simp
        have HF:Hid (∃ tags1,MidR w w3 g0 w.heap.size tags0 (if a=k then m else swp m k a) (if a=k then d else -d) (.slice av k cv) ld tags1):=by
         rw [if_pos hak,if_pos hak];exact ⟨tags,HMID.out⟩
        clear HBK hbak hak HSWP
        subst hb
        go_wp2_with fail
        go_meet
        exact HF.out
       ·have hb:bak=true:=by rw [← HBK.out];simp;omega
        have hka1:¬ k=a:=fun e=>hak e.symm
        obtain ⟨s,t,hs,ht,c1,c3,f1,f3,h1,h3,h2,h4,hmid,hbk⟩:=HSWP.out hak w3 (Ext.refl _)
        have HM3:=Lib.hid (hmid.ext (Ext.drew _))
        have HBK2:=Lib.hid hbk
        obtain ⟨b0,b1,b2,b3⟩:=HM3.out.box.cells
        have HNEG:Hid (∀ W,Calls Tryz.prog 162 #[.agg #[.string (intB d.num),.string (numB d.den)]] W fun e w'=>e=.returned (.agg #[.string (intB (-d).num),.string (numB (-d).den)])∧Ext W w'):=fun W=>ratNeg_any d W (HD.out.mono (by omega))
        clear hmid hbk
        have kL:k<L:=by omega
        clear HBK hbak
        subst hb
        go_wp2_with fail
        go_region
        all_goals
         go_wp2_with fail
         refine (HNEG.out _).mono ?_
         rintro e w5 ⟨rfl,hE5⟩
         have HM5:=Lib.hid (HM3.out.ext hE5)
         obtain ⟨d0,d1,d2,d3⟩:=HM5.out.box.cells
         have HF:=Lib.hid (HM5.out.setBox HBK2.out (Nat.le_refl _) (-d))
         clear hE5 HNEG b0 b1 b2 b3
         go_wp2_with fail
         go_meet
         rw [if_neg hak,if_neg hak]
         exact ⟨_,HF.out⟩
      case rest =>
       have HHC:=Lib.hid hcut
       obtain ⟨tags1,hmid1⟩:=HHC.out.out
       clear hcut HHC HBK HMID HSWP HE3
       obtain ⟨m1,hm1⟩:∃ m1,m1=if a=k then m else swp m k a:=⟨_,rfl⟩
       obtain ⟨d1,hd1⟩:∃ d1,d1=if a=k then d else -d:=⟨_,rfl⟩
       rw [← hm1,← hd1] at hmid1
       have HM1:=Lib.hid hmid1
       have HRC1:Hid (Rect C m1∧m1.length=L):=by
        unfold Hid;rw [hm1];split
        ·exact HRC.out
        ·exact ⟨HRC.out.1.swp _ _,by rw [swp_length];exact HRC.out.2⟩
       have HA1:Hid (AllRS 2500 m1):=by
        unfold Hid;rw [hm1];split
        ·exact HA.out
        ·exact HA.out.swp _ _
       have HD1:Hid (RS 9001 d1):=by
        unfold Hid;rw [hd1];split
        ·exact HD.out.mono (by omega)
        ·exact neg_RS HD.out
       have hkm:k<m.length:=by rw [HRC.out.2];omega
       have ham:a<m.length:=by rw [HRC.out.2];omega
       obtain ⟨f,hf⟩:∃ f,f=elQ m1 k c:=⟨_,rfl⟩
       obtain ⟨r,hr⟩:∃ r,r=rowQ m1 k:=⟨_,rfl⟩
       have HF0:Hid (f≠0):=by unfold Hid;rw [hf,hm1,elQ_pivot hkm ham];exact HX0.out
       have HRK:Hid (m1[k]?=some r∧r.length=C∧r[c]?=some f):=by
        have h1:m1[k]?=some r:=by rw [hr];exact get_rowQ (by rw [HRC1.out.2];omega)
        have h2:=HRC1.out.1.get h1
        refine ⟨h1,h2,?_⟩
        have hcl:c<r.length:=by omega
        rw [hf,elQ_get (x:=r[c]) (by rw [← hr];exact List.getElem?_eq_getElem hcl)]
        exact List.getElem?_eq_getElem hcl
       have HNX:Hid (redTo m0 (c+1)=⟨elimTo (m1.set k (divRow r f)) (divRow r f) c k L,ld++[c],d1*f⟩):=by
        unfold Hid
        have hkl:=HK.out
        rw [HST.out,stepR_some (a:=a) (m1:=m1) (d1:=d1) (r:=r) (f:=f) ?_ ?_ ?_ ?_ ?_ ?_,List.length_set,← hkl,HRC1.out.2]
        ·rw [HRC.out.2,← hkl]
         exact findP_eq m c _ k a hka (by omega) HZ.out (fun _=>HX0.out)
        ·rw [HRC.out.2];exact haL2
        ·rw [← hkl];exact hm1
        ·rw [← hkl];exact hd1
        ·rw [← hkl];exact hr
        ·rw [← hkl];exact hf
       have hkl2:k<L:=by omega
       have hcC:c<C:=by omega
       clear hmid1 hm1 hd1 hf hr hkm ham HMM HBB HLD HA HD HRC HST HX0 HZ hsz HDS HOK hka hal haL haL2 hbL hbak
       have HEC:Hid (Ext wb wc):=Below.trans HWB.out (HM1.out.grown.belowE (B:=wb.heap.size) HBL.out HWB.out.size)
       have HBG1:Hid (∀ b,blocksQ g0 tags1 b→b<w.heap.size):=fun b hb=>HBW.out b ((HM1.out.same b).1 hb)
       obtain ⟨dd,hdd⟩:∃ dd,dd=d1*f:=⟨_,rfl⟩
       rw [← hdd] at HNX
       have HMUL:Hid (∀ W,Ext wc W→Calls Tryz.prog 163 #[.agg #[.string (intB d1.num),.string (numB d1.den)],.agg #[.string (intB f.num),.string (numB f.den)]] W fun e w'=>e=.returned (.agg #[.string (intB dd.num),.string (numB dd.den)])∧Ext W w'):=fun W hW=>by
        rw [hdd]
        exact ratMul_any d1 f W (HD1.out.mono (by omega)) ((HA1.out.get HRK.out.1 HRK.out.2.2).mono (by omega)) (HT.out.ext (HEC.out.trans hW))
       obtain ⟨t,ht,c1,h1,h2,hrow,hne,hbq⟩:=HM1.out.mat.get HRK.out.1
       rw [HRK.out.2.1] at c1 h1
       have g2:=hrow.num c f HRK.out.2.2
       have g3:=hrow.den c f HRK.out.2.2
       have HTAG:Hid (tags1[k]?=some t):=ht
       obtain ⟨W4,hW4,hE4,hs4,hb4⟩:=box2 wc (.string (intB f.num)) (.string (numB f.den)) 152
       have HE4:=Lib.hid hE4
       have hDF:=HM1.out.size
       have HB4:Hid (∀ W,Ext W4 W→BoxQ W wc.heap.size f):=fun W hW=>block_ext hb4 hW
       obtain ⟨e0,e1,e2,e3⟩:=(HB4.out W4 (Ext.refl _)).cells
       obtain ⟨b0,b1,b2,b3⟩:=(HM1.out.ext hE4).box.cells
       clear ht hrow hne hbq hE4 hs4 hb4 hdd
       go_upto_region 15 with (fail)
       obtain ⟨wq,rfl⟩:∃ wq:World,wq=wc:=⟨_,rfl⟩
       go_cut [] from 71 to 73 (fun wx=>Hid (MidR w wx g0 w.heap.size tags0 m1 dd (.slice av k cv) ld tags1)∧Hid (BoxQ wx wq.heap.size f))
       case first =>
        clear c1 g2 g3
        go_wp2_with fail
        refine (HMUL.out _ HE4.out).mono ?_
        rintro e w5 ⟨rfl,hE5⟩
        have HM5:=Lib.hid (HM1.out.ext (HE4.out.trans hE5))
        have HBF:=HB4.out _ hE5
        have HF:=Lib.hid (HM5.out.setBox HBG1.out (Nat.le_refl _) dd)
        have HG:=Lib.hid (HBF.grown (S:=(·=w.heap.size)) (((GrownS.refl (·=w.heap.size) w5).store (S:=(·=w.heap.size)) rfl 0 (.string (intB dd.num))).store (S:=(·=w.heap.size)) rfl 1 (.string (numB dd.den))) (by omega))
        clear b0 b1 b2 b3 e0 e1 e2 e3 HBF hE5
        obtain ⟨b0,b1,b2,b3⟩:=HM5.out.box.cells
        go_wp2_with fail
        go_meet
        exact ⟨HF.out,HG.out⟩
       case rest =>
       obtain ⟨HM6,HBF6⟩:=hcut
       have hFBD:w.heap.size≤wq.heap.size:=by omega
       clear HM1 HE4 HB4 HMUL c1 g2 g3 b0 b1 b2 b3 e0 e1 e2 e3 hW4 HEC
       obtain ⟨t',ht',c1,-,-,-⟩:=HM6.out.mat.get HRK.out.1
       obtain rfl:t=t':=Option.some.inj (HTAG.out.symm.trans ht')
       rw [HRK.out.2.1] at c1
       clear ht'
       go_wp2_with fail
       clear c1
       go_loopw [79] (fun tv wr=>∃ j:Nat,tv=.int .i64 j∧j≤C∧Hid (MidR w wr g0 w.heap.size tags0 (m1.set k (partN (divRow r f) r j)) dd (.slice av k cv) ld tags1)∧Hid (BoxQ wr wq.heap.size f)) (fun tv _=>C-(intOf tv).toNat)
       case atStart=>exact ⟨0,rfl,by omega,by unfold Hid;rw [partN_zero,set_same HRK.out.1];exact HM6.out,HBF6.out⟩
       case round =>
        obtain ⟨j,rfl,hjC,HMJ,HBJ⟩:=hrel
        obtain ⟨wj,rfl⟩:∃ wj:World,wj=wr:=⟨_,rfl⟩
        clear HM6 HBF6
        have HDL:Hid ((divRow r f).length=r.length):=divRow_len r f
        by_cases hj:j<C
        ·have hrl:=HRK.out.2.1
         obtain ⟨x,hx⟩:∃ x,r[j]?=some x:=⟨_,List.getElem?_eq_getElem (by omega)⟩
         have hP:(m1.set k (partN (divRow r f) r j))[k]?=some (partN (divRow r f) r j):=set_get HRK.out.1
         have hPL:(partN (divRow r f) r j).length=C:=by rw [partN_len _ _ _ HDL.out];exact HRK.out.2.1
         have hPx:=partN_get HDL.out (Nat.le_refl j) hx
         obtain ⟨t',ht',c1,-,-,hrow,-⟩:=HMJ.out.mat.get hP
         obtain rfl:t=t':=Option.some.inj (HTAG.out.symm.trans ht')
         rw [hPL] at c1
         have g2:=hrow.num j x hPx
         have g3:=hrow.den j x hPx
         obtain ⟨e0,e1,-,-⟩:=HBJ.out.cells
         obtain ⟨q,hq⟩:∃ q,q=x / f:=⟨_,rfl⟩
         have HEJ:Hid (Ext wb wj):=Below.trans HWB.out (HMJ.out.grown.belowE (B:=wb.heap.size) HBL.out HWB.out.size)
         have HDIV:Hid (∀ W,Ext wj W→Calls Tryz.prog 164 #[.agg #[.string (intB x.num),.string (numB x.den)],.agg #[.string (intB f.num),.string (numB f.den)]] W fun e w'=>e=.returned (.tuple #[.agg #[.string (intB q.num),.string (numB q.den)],.int .i64 0])∧Ext W w'):=fun W hW=>by
          rw [hq]
          exact ratDiv_any x f W ((HA1.out.get HRK.out.1 hx).mono (by omega)) ((HA1.out.get HRK.out.1 HRK.out.2.2).mono (by omega)) HF0.out (HT.out.ext (HEJ.out.trans hW))
         have HNEXT:Hid (∀ W,Ext wj W→MidR w ((W.setCell ⟨t.1,j*2,none⟩ (.string (intB q.num))).setCell ⟨t.1,j*2+1,none⟩ (.string (numB q.den))) g0 w.heap.size tags0 (m1.set k (partN (divRow r f) r (j+1))) dd (.slice av k cv) ld tags1∧BoxQ ((W.setCell ⟨t.1,j*2,none⟩ (.string (intB q.num))).setCell ⟨t.1,j*2+1,none⟩ (.string (numB q.den))) wq.heap.size f):=fun W hW=>by
          have hn:=(HMJ.out.ext hW).setEl HBG1.out HTAG.out hP (j:=j) (by rw [hPL];exact hj) q
          rw [List.set_set,partN_set HDL.out (by rw [hq];exact divRow_get hx)] at hn
          exact ⟨hn.1,hn.2 _ _ (HBJ.out.ext hW) hFBD⟩
         have HFR:Hid (∀ W,Ext wj W→W.frozen? ⟨t.1,j*2,none⟩=false∧W.frozen? ⟨t.1,j*2+1,none⟩=false):=fun W hW=>⟨(hrow.ext hW).free _,(hrow.ext hW).free _⟩
         clear ht' hP hPL hPx hrow hx hq hrl
         go_wp2_with fail
         refine region_anyE (fun w'=>w'.cell? ⟨g0,k,none⟩=some (.slice (some ⟨t.1,0,none⟩) C t.2)∧w'.cell? ⟨t.1,j*2,none⟩=some (.string (intB x.num))∧w'.cell? ⟨t.1,j*2+1,none⟩=some (.string (numB x.den))∧w'.cell? ⟨wq.heap.size,0,none⟩=some (.string (intB f.num))∧w'.cell? ⟨wq.heap.size,1,none⟩=some (.string (numB f.den))∧Hid (Ext wj w')) 18 (by kernel_rfl) ⟨(Ext.drew wj).cell c1,(Ext.drew wj).cell g2,(Ext.drew wj).cell g3,(Ext.drew wj).cell e0,(Ext.drew wj).cell e1,Ext.drew wj⟩ (fun hHeld=>?_)
         refine anyE_takeW (v:=?_) 0 rfl (by kernel_rfl) (by kernel_rfl) (by kernel_rfl) (by decide) (fun _ _ _ h=>h) (Or.inl ⟨by rfl,?_⟩) (by assumption) ?_
         rotate_left
         ·((intro w');(try go_simp);(try with_reducible rfl))
         (try simp only [Act.put,List.setIfInBounds_toArray,List.set_cons_zero,List.set_cons_succ])
         refine anyE_takeW (v:=?_) 1 rfl (by kernel_rfl) (by kernel_rfl) (by kernel_rfl) (by decide) (fun _ _ _ h=>h) (Or.inl ⟨by rfl,?_⟩) (by assumption) ?_
         rotate_left
         ·((intro w');(try go_simp);(try with_reducible rfl))
         (try simp only [Act.put,List.setIfInBounds_toArray,List.set_cons_zero,List.set_cons_succ])
         refine anyE_takeW (v:=?_) 2 rfl (by kernel_rfl) (by kernel_rfl) (by kernel_rfl) (by decide) (fun _ _ _ h=>h) (Or.inl ⟨by rfl,?_⟩) (by assumption) ?_
         rotate_left
         ·((intro w');(try go_simp);(try with_reducible rfl))
         (try simp only [Act.put,List.setIfInBounds_toArray,List.set_cons_zero,List.set_cons_succ])
         refine anyE_take (v:=?_) 3 rfl (by kernel_rfl) (by kernel_rfl) (by kernel_rfl) (by kernel_rfl) (by kernel_rfl) (fun _ _ _ h=>h) (Or.inl ⟨by rfl,?_⟩) (by assumption) ?_
         rotate_left
         ·((intro w' hSw);(try dsimp only at hSw);(try go_simp);(try with_reducible rfl))
         (try simp only [Act.put,List.setIfInBounds_toArray,List.set_cons_zero,List.set_cons_succ])
         refine anyE_takeW (v:=?_) 4 rfl (by kernel_rfl) (by kernel_rfl) (by kernel_rfl) (by decide) (fun _ _ _ h=>h) (Or.inl ⟨by rfl,?_⟩) (by assumption) ?_
         rotate_left
         ·((intro w');(try go_simp);(try with_reducible rfl))
         (try simp only [Act.put,List.setIfInBounds_toArray,List.set_cons_zero,List.set_cons_succ])
         refine anyE_takeW (v:=?_) 5 rfl (by kernel_rfl) (by kernel_rfl) (by kernel_rfl) (by decide) (fun _ _ _ h=>h) (Or.inl ⟨by rfl,?_⟩) (by assumption) ?_
         rotate_left
         ·((intro w');(try go_simp);(try with_reducible rfl))
         (try simp only [Act.put,List.setIfInBounds_toArray,List.set_cons_zero,List.set_cons_succ])
         refine anyE_takeW (v:=?_) 6 rfl (by kernel_rfl) (by kernel_rfl) (by kernel_rfl) (by decide) (fun _ _ _ h=>h) (Or.inl ⟨by rfl,?_⟩) (by assumption) ?_
         rotate_left
         ·((intro w');(try go_simp);(try with_reducible rfl))
         (try simp only [Act.put,List.setIfInBounds_toArray,List.set_cons_zero,List.set_cons_succ])
         refine anyE_takeW (v:=?_) 7 rfl (by kernel_rfl) (by kernel_rfl) (by kernel_rfl) (by decide) (fun _ _ _ h=>h) (Or.inl ⟨by rfl,?_⟩) (by assumption) ?_
         rotate_left
         ·((intro w');(try go_simp);(try with_reducible rfl))
         (try simp only [Act.put,List.setIfInBounds_toArray,List.set_cons_zero,List.set_cons_succ])
         refine anyE_take (v:=?_) 8 rfl (by kernel_rfl) (by kernel_rfl) (by kernel_rfl) (by kernel_rfl) (by kernel_rfl) (fun _ _ _ h=>h) (Or.inl ⟨by rfl,?_⟩) (by assumption) ?_
         rotate_left
         ·((intro w' hSw);(try dsimp only at hSw);(try go_simp);(try with_reducible rfl))
         (try simp only [Act.put,List.setIfInBounds_toArray,List.set_cons_zero,List.set_cons_succ])
         refine anyE_takeW (v:=?_) 9 rfl (by kernel_rfl) (by kernel_rfl) (by kernel_rfl) (by decide) (fun _ _ _ h=>h) (Or.inl ⟨by rfl,?_⟩) (by assumption) ?_
         rotate_left
         ·((intro w');(try go_simp);(try with_reducible rfl))
         (try simp only [Act.put,List.setIfInBounds_toArray,List.set_cons_zero,List.set_cons_succ])
         refine anyE_takeW (v:=?_) 10 rfl (by kernel_rfl) (by kernel_rfl) (by kernel_rfl) (by decide) (fun _ _ _ h=>h) (Or.inl ⟨by rfl,?_⟩) (by assumption) ?_
         rotate_left
         ·((intro w');(try go_simp);(try with_reducible rfl))
         (try simp only [Act.put,List.setIfInBounds_toArray,List.set_cons_zero,List.set_cons_succ])
         refine anyE_take (v:=?_) 11 rfl (by kernel_rfl) (by kernel_rfl) (by kernel_rfl) (by kernel_rfl) (by kernel_rfl) (fun _ _ _ h=>h) (Or.inl ⟨by rfl,?_⟩) (by assumption) ?_
         rotate_left
         ·((intro w' hSw);(try dsimp only at hSw);(try go_simp);(try with_reducible rfl))
         (try simp only [Act.put,List.setIfInBounds_toArray,List.set_cons_zero,List.set_cons_succ])
         refine anyE_take (v:=?_) 12 rfl (by kernel_rfl) (by kernel_rfl) (by kernel_rfl) (by kernel_rfl) (by kernel_rfl) (fun _ _ _ h=>h) (Or.inl ⟨by rfl,?_⟩) (by assumption) ?_
         rotate_left
         ·((intro w' hSw);(try dsimp only at hSw);(try go_simp);(try with_reducible rfl))
         (try simp only [Act.put,List.setIfInBounds_toArray,List.set_cons_zero,List.set_cons_succ])
         refine anyE_step 13 (by kernel_rfl) rfl (fun K hK=>?_)
         go_simp
         (go_at_call 164;refine (HDIV.out _ hHeld.2.2.2.2.2.out).mono ?_)
         rintro e w5 ⟨rfl,hE5⟩
         go_wp2_with fail
         refine hK.out _ _ (⟨hE5.cell hHeld.1,hE5.cell hHeld.2.1,hE5.cell hHeld.2.2.1,hE5.cell hHeld.2.2.2.1,hE5.cell hHeld.2.2.2.2.1,Ext.trans hHeld.2.2.2.2.2.out hE5⟩) (fun hHeld=>?_)
         clear hK K
         (try simp only [Act.put,List.setIfInBounds_toArray,List.set_cons_zero,List.set_cons_succ])
         refine anyE_takeW (v:=?_) 14 rfl (by kernel_rfl) (by kernel_rfl) (by kernel_rfl) (by decide) (fun _ _ _ h=>h) (Or.inl ⟨by rfl,?_⟩) (by assumption) ?_
         rotate_left
         ·((intro w');(try go_simp);(try with_reducible rfl))
         (try simp only [Act.put,List.setIfInBounds_toArray,List.set_cons_zero,List.set_cons_succ])
         refine anyE_takeW (v:=?_) 15 rfl (by kernel_rfl) (by kernel_rfl) (by kernel_rfl) (by decide) (fun _ _ _ h=>h) (Or.inl ⟨by rfl,?_⟩) (by assumption) ?_
         rotate_left
         ·((intro w');(try go_simp);(try with_reducible rfl))
         (try simp only [Act.put,List.setIfInBounds_toArray,List.set_cons_zero,List.set_cons_succ])
         refine anyE_takeW (v:=?_) 16 rfl (by kernel_rfl) (by kernel_rfl) (by kernel_rfl) (by decide) (fun _ _ _ h=>h) (Or.inl ⟨by rfl,?_⟩) (by assumption) ?_
         rotate_left
         ·((intro w');(try go_simp);(try with_reducible rfl))
         (try simp only [Act.put,List.setIfInBounds_toArray,List.set_cons_zero,List.set_cons_succ])
         refine anyE_takeW (v:=?_) 17 rfl (by kernel_rfl) (by kernel_rfl) (by kernel_rfl) (by decide) (fun _ _ _ h=>h) (Or.inl ⟨by rfl,?_⟩) (by assumption) ?_
         rotate_left
         ·((intro w');(try go_simp);(try with_reducible rfl))
         (try simp only [Act.put,List.setIfInBounds_toArray,List.set_cons_zero,List.set_cons_succ])
         have z1:=hHeld.2.1
         have z2:=hHeld.2.2.1
         have z3:=HFR.out _ hHeld.2.2.2.2.2.out
         obtain ⟨z4,z5⟩:=z3
         have HM7:=HNEXT.out _ hHeld.2.2.2.2.2.out
         refine anyE_last 18 (by kernel_rfl) (by kernel_rfl) (by kernel_rfl) rfl (fun K hK=>?_)
         go_simp
         refine hK.out _ _ ?_
         clear hK K
         (try simp only [Act.put,List.setIfInBounds_toArray,List.set_cons_zero,List.set_cons_succ])
         go_wp2_with fail
         go_roundw
         case rel=>exact ⟨j+1,by go_num,by omega,HM7.1,HM7.2⟩
         case measure=>simp [intOf];omega
        ·have HM8:Hid (MidR w wj g0 w.heap.size tags0 (m1.set k (divRow r f)) dd (.slice av k cv) ld tags1):=by
          have h8:=HMJ.out
          rw [partN_all _ _ _ HDL.out (by rw [HRK.out.2.1];omega)] at h8
          exact h8
         obtain ⟨p,hp⟩:∃ p,p=divRow r f:=⟨_,rfl⟩
         have HAP:Hid (∀ (j:Nat) y,p[j]?=some y→RS 5002 y):=by
          intro j y hy
          rw [hp] at hy
          unfold divRow at hy
          rw [List.getElem?_map] at hy
          obtain ⟨x,hx,rfl⟩:=Option.map_eq_some_iff.1 hy
          exact (div_RS (HA1.out.get HRK.out.1 hx) (HA1.out.get HRK.out.1 HRK.out.2.2) HF0.out).mono (by omega)
         have HPL:Hid (p.length=C):=by unfold Hid;rw [hp,divRow_len];exact HRK.out.2.1
         rw [← hp] at HM8 HNX
         obtain ⟨m2,hm2⟩:∃ m2,m2=m1.set k p:=⟨_,rfl⟩
         rw [← hm2] at HM8 HNX
         have HRC2:Hid (Rect C m2∧m2.length=L):=by unfold Hid;rw [hm2];exact ⟨HRC1.out.1.set _ HPL.out,by rw [List.length_set];exact HRC1.out.2⟩
         have HPK:Hid (m2[k]?=some p):=by unfold Hid;rw [hm2];exact set_get HRK.out.1
         have HA2:Hid (∀ (i j:Nat) ri x,i≠k→m2[i]?=some ri→ri[j]?=some x→RS 2500 x):=by
          intro i j ri x hik hri hx
          rw [hm2,List.getElem?_set,if_neg (fun e=>hik e.symm)] at hri
          exact HA1.out.get hri hx
         obtain ⟨tk,htk,c2,hk1,hk2,-⟩:=HM8.out.mat.get HPK.out
         obtain rfl:t=tk:=Option.some.inj (HTAG.out.symm.trans htk)
         clear htk c2 hp hm2 HMJ HBJ HDL HRC1 HA1 HD1 HF0 HRK
         go_wp2_with fail
         go_loopw [103] (fun tv wr=>∃ i:Nat,tv=.int .i64 i∧i≤L∧Hid (MidR w wr g0 w.heap.size tags0 (elimTo m2 p c k i) dd (.slice av k cv) ld tags1)) (fun tv _=>L-(intOf tv).toNat)
         case atStart=>exact ⟨0,rfl,by omega,HM8.out⟩
         case round =>
          obtain ⟨i,rfl,hiL,HMI⟩:=hrel
          obtain ⟨wi,rfl⟩:∃ wi:World,wi=wr:=⟨_,rfl⟩
          clear HM8
          by_cases hi:i<L
          ·obtain ⟨M,hM⟩:∃ M,M=elimTo m2 p c k i:=⟨_,rfl⟩
           obtain ⟨ri,hri⟩:∃ ri,ri=rowQ M i:=⟨_,rfl⟩
           have hMl:M.length=L:=by rw [hM,elimTo_len];exact HRC2.out.2
           have hMi:M[i]?=some ri:=by rw [hri];exact get_rowQ (by omega)
           have hrc:Rect C M:=by rw [hM];exact HRC2.out.1.elim HPL.out c k i (by rw [HRC2.out.2];omega)
           have hril:=hrc.get hMi
           have HMm:Hid (m2[i]?=some ri):=by unfold Hid;rw [← elimTo_get m2 p c k i i (Nat.le_refl _),← hM];exact hMi
           have HMk:Hid (M[k]?=some p):=by unfold Hid;rw [hM,elimTo_pivot];exact HPK.out
           have HSTEP:Hid (elimTo m2 p c k (i+1)=M.set i (elimR p c k i ri)):=by unfold Hid;rw [hri,hM];rfl
           obtain ⟨x,hx⟩:∃ x,ri[c]?=some x:=⟨_,List.getElem?_eq_getElem (by omega)⟩
           have HXG:Hid (ri.getD c 0=x):=by unfold Hid;rw [List.getD_eq_getElem?_getD,hx];rfl
           rw [← hM] at HMI
           obtain ⟨ti,hti,c1,hi1,hi2,hrow,hne,hbq⟩:=HMI.out.mat.get hMi
           rw [hril] at c1 hi1
           have HTI:Hid (tags1[i]?=some ti):=hti
           have g2:=hrow.num c x hx
           have g3:=hrow.den c x hx
           have HRI:Hid (M[i]?=some ri∧ri.length=C∧ri[c]?=some x):=⟨hMi,hril,hx⟩
           obtain ⟨W9,hW9,hE9,hs9,hb9⟩:=box2 wi (.string (intB x.num)) (.string (numB x.den)) 152
           have HE9:=Lib.hid hE9
           have HB9:Hid (∀ W,Ext W9 W→BoxQ W wi.heap.size x):=fun W hW=>block_ext hb9 hW
           have hDF2:w.heap.size≤wi.heap.size:=by have:=HMI.out.size;omega
           obtain ⟨e0,e1,e2,e3⟩:=(HB9.out W9 (Ext.refl _)).cells
           clear hM hri hMl hMi hrc hril hx hti hrow hne hbq hE9 hs9 hb9
           by_cases hik:i=k
           ·have hb:((i:Int) == (k:Int))=true:=by rw [hik];exact beq_self_eq_true _
            have HREL:Hid (MidR w W9 g0 w.heap.size tags0 (elimTo m2 p c k (i+1)) dd (.slice av k cv) ld tags1):=by
             unfold Hid
             rw [HSTEP.out]
             unfold elimR
             rw [if_pos (.inl hik),set_same HRI.out.1]
             exact HMI.out.ext HE9.out
            clear hik
            go_wp2_with fail
            go_roundw
            case rel=>exact ⟨i+1,by go_num,by omega,HREL.out⟩
            case measure=>simp [intOf];omega
           ·have hb:((i:Int) == (k:Int))=false:=by rw [beq_eq_false_iff_ne];omega
            have HIK:=Lib.hid hik
            have HSG:Hid (∀ W,Calls Tryz.prog 160 #[.agg #[.string (intB x.num),.string (numB x.den)]] W fun e w'=>e=.returned (.int .i64 x.num.sign)∧Ext W w'):=fun W=>ratSign_any x W
            have hsz:=rat_sign_zero x
            obtain ⟨sg2,hsg2⟩:∃ sg,sg=x.num.sign:=⟨_,rfl⟩
            rw [← hsg2] at HSG hsz
            clear hsg2 hik
            by_cases hx0:x=0
            ·rw [decide_eq_true hx0] at hsz
             have HX0:=Lib.hid hx0
             clear hx0
             go_wp2_with fail
             refine (HSG.out _).mono ?_
             rintro e w5 ⟨rfl,hE5⟩
             have HREL:Hid (MidR w w5 g0 w.heap.size tags0 (elimTo m2 p c k (i+1)) dd (.slice av k cv) ld tags1):=by
              unfold Hid
              rw [HSTEP.out]
              unfold elimR
              rw [if_pos (.inr (HXG.out.trans HX0.out)),set_same HRI.out.1]
              exact HMI.out.ext (HE9.out.trans hE5)
             clear hE5 HSG c1 g2 g3 e0 e1 e2 e3
             go_wp2_with fail
             go_roundw
             case rel=>exact ⟨i+1,by go_num,by omega,HREL.out⟩
             case measure=>simp [intOf];omega
            ·rw [decide_eq_false hx0] at hsz
             have HX0:=Lib.hid hx0
             clear hx0
             go_wp2_with fail
             refine (HSG.out _).mono ?_
             rintro e w5 ⟨rfl,hE5⟩
             have HM9:=Lib.hid (HMI.out.ext (HE9.out.trans hE5))
             have HBX9:=Lib.hid (HB9.out _ hE5)
             have HSTEP2:Hid (elimTo m2 p c k (i+1)=M.set i (subRow ri p x)):=by
              unfold Hid
              rw [HSTEP.out]
              unfold elimR
              rw [HXG.out,if_neg (fun h=>h.elim HIK.out HX0.out)]
             have c1':=(HE9.out.trans hE5).cell c1
             have HSL:Hid ((subRow ri p x).length=ri.length):=subRow_len _ _ _ (by rw [HPL.out,HRI.out.2.1])
             clear hE5 HSG c1 g2 g3 e0 e1 e2 e3
             go_wp2_with fail
             clear c1'
             go_loopw [126] (fun tv wr=>∃ j:Nat,tv=.int .i64 j∧j≤C∧Hid (MidR w wr g0 w.heap.size tags0 (M.set i (partN (subRow ri p x) ri j)) dd (.slice av k cv) ld tags1)∧Hid (BoxQ wr wi.heap.size x)) (fun tv _=>C-(intOf tv).toNat)
             case atStart=>exact ⟨0,rfl,by omega,by unfold Hid;rw [partN_zero,set_same HRI.out.1];exact HM9.out,HBX9.out⟩
             case round =>
              obtain ⟨j,rfl,hjC5,HMJ,HBJ⟩:=hrel
              obtain ⟨wk,rfl⟩:∃ wk:World,wk=wr:=⟨_,rfl⟩
              clear HM9 HBX9
              by_cases hj5:j<C
              ·have hrl:=HRI.out.2.1
               have hpl:=HPL.out
               obtain ⟨u,hu⟩:∃ u,ri[j]?=some u:=⟨_,List.getElem?_eq_getElem (by omega)⟩
               obtain ⟨y,hy⟩:∃ y,p[j]?=some y:=⟨_,List.getElem?_eq_getElem (by omega)⟩
               have hP:(M.set i (partN (subRow ri p x) ri j))[i]?=some (partN (subRow ri p x) ri j):=set_get HRI.out.1
               have hPk:(M.set i (partN (subRow ri p x) ri j))[k]?=some p:=by rw [List.getElem?_set,if_neg HIK.out];exact HMk.out
               have hPL:(partN (subRow ri p x) ri j).length=C:=by rw [partN_len _ _ _ HSL.out];exact HRI.out.2.1
               have hPu:=partN_get HSL.out (Nat.le_refl j) hu
               obtain ⟨t',ht',c1,-,-,hrow,-⟩:=HMJ.out.mat.get hP
               obtain rfl:ti=t':=Option.some.inj (HTI.out.symm.trans ht')
               obtain ⟨t',ht'',c2,-,-,hrow2,-⟩:=HMJ.out.mat.get hPk
               obtain rfl:t=t':=Option.some.inj (HTAG.out.symm.trans ht'')
               rw [hPL] at c1
               rw [hpl] at c2
               have g2:=hrow.num j u hPu
               have g3:=hrow.den j u hPu
               have y2:=hrow2.num j y hy
               have y3:=hrow2.den j y hy
               obtain ⟨e0,e1,-,-⟩:=HBJ.out.cells
               obtain ⟨s1,hs1⟩:∃ q,q=x*y:=⟨_,rfl⟩
               obtain ⟨q,hq⟩:∃ q,q=u-s1:=⟨_,rfl⟩
               have HEJ:Hid (Ext wb wk):=Below.trans HWB.out (HMJ.out.grown.belowE (B:=wb.heap.size) HBL.out HWB.out.size)
               have hxs:RS 2500 x:=HA2.out i c ri x HIK.out HMm.out HRI.out.2.2
               have hys:RS 5002 y:=HAP.out j y hy
               have hus:RS 2500 u:=HA2.out i j ri u HIK.out HMm.out hu
               have HMUL2:Hid (∀ W,Ext wk W→Calls Tryz.prog 163 #[.agg #[.string (intB x.num),.string (numB x.den)],.agg #[.string (intB y.num),.string (numB y.den)]] W fun e w'=>e=.returned (.agg #[.string (intB s1.num),.string (numB s1.den)])∧Ext W w'):=fun W hW=>by
                rw [hs1]
                exact ratMul_any x y W (hxs.mono (by omega)) (hys.mono (by omega)) (HT.out.ext (HEJ.out.trans hW))
               have HSUB:Hid (∀ W,Ext wk W→Calls Tryz.prog 165 #[.agg #[.string (intB u.num),.string (numB u.den)],.agg #[.string (intB s1.num),.string (numB s1.den)]] W fun e w'=>e=.returned (.agg #[.string (intB q.num),.string (numB q.den)])∧Ext W w'):=fun W hW=>by
                rw [hq]
                exact ratSub_any u s1 W (hus.mono (by omega)) (by rw [hs1];exact (mul_RS hxs hys).mono (by omega)) (HT.out.ext (HEJ.out.trans hW))
               have HNEXT:Hid (∀ W,Ext wk W→MidR w ((W.setCell ⟨ti.1,j*2,none⟩ (.string (intB q.num))).setCell ⟨ti.1,j*2+1,none⟩ (.string (numB q.den))) g0 w.heap.size tags0 (M.set i (partN (subRow ri p x) ri (j+1))) dd (.slice av k cv) ld tags1∧BoxQ ((W.setCell ⟨ti.1,j*2,none⟩ (.string (intB q.num))).setCell ⟨ti.1,j*2+1,none⟩ (.string (numB q.den))) wi.heap.size x):=fun W hW=>by
                have hn:=(HMJ.out.ext hW).setEl HBG1.out HTI.out hP (j:=j) (by rw [hPL];exact hj5) q
                rw [List.set_set,partN_set HSL.out (by rw [hq,hs1];exact subRow_get hu hy)] at hn
                exact ⟨hn.1,hn.2 _ _ (HBJ.out.ext hW) hDF2⟩
               have HFR:Hid (∀ W,Ext wk W→W.frozen? ⟨ti.1,j*2,none⟩=false∧W.frozen? ⟨ti.1,j*2+1,none⟩=false):=fun W hW=>⟨(hrow.ext hW).free _,(hrow.ext hW).free _⟩
               clear ht' ht'' hP hPk hPL hPu hrow hrow2 hu hy hq hs1 hrl hpl hxs hys hus
               go_wp2_with fail
               refine region_anyE (fun w'=>w'.cell? ⟨g0,i,none⟩=some (.slice (some ⟨ti.1,0,none⟩) C ti.2)∧w'.cell? ⟨g0,k,none⟩=some (.slice (some ⟨t.1,0,none⟩) C t.2)∧w'.cell? ⟨ti.1,j*2,none⟩=some (.string (intB u.num))∧w'.cell? ⟨ti.1,j*2+1,none⟩=some (.string (numB u.den))∧w'.cell? ⟨t.1,j*2,none⟩=some (.string (intB y.num))∧w'.cell? ⟨t.1,j*2+1,none⟩=some (.string (numB y.den))∧w'.cell? ⟨wi.heap.size,0,none⟩=some (.string (intB x.num))∧w'.cell? ⟨wi.heap.size,1,none⟩=some (.string (numB x.den))∧Hid (Ext wk w')) 23 (by kernel_rfl) ⟨(Ext.drew wk).cell c1,(Ext.drew wk).cell c2,(Ext.drew wk).cell g2,(Ext.drew wk).cell g3,(Ext.drew wk).cell y2,(Ext.drew wk).cell y3,(Ext.drew wk).cell e0,(Ext.drew wk).cell e1,Ext.drew wk⟩ (fun hHeld=>?_)
               refine anyE_takeW (v:=?_) 0 rfl (by kernel_rfl) (by kernel_rfl) (by kernel_rfl) (by decide) (fun _ _ _ h=>h) (Or.inl ⟨by rfl,?_⟩) (by assumption) ?_
               rotate_left
               ·((intro w');(try go_simp);(try with_reducible rfl))
               (try simp only [Act.put,List.setIfInBounds_toArray,List.set_cons_zero,List.set_cons_succ])
               refine anyE_takeW (v:=?_) 1 rfl (by kernel_rfl) (by kernel_rfl) (by kernel_rfl) (by decide) (fun _ _ _ h=>h) (Or.inl ⟨by rfl,?_⟩) (by assumption) ?_
               rotate_left
               ·((intro w');(try go_simp);(try with_reducible rfl))
               (try simp only [Act.put,List.setIfInBounds_toArray,List.set_cons_zero,List.set_cons_succ])
               refine anyE_takeW (v:=?_) 2 rfl (by kernel_rfl) (by kernel_rfl) (by kernel_rfl) (by decide) (fun _ _ _ h=>h) (Or.inl ⟨by rfl,?_⟩) (by assumption) ?_
               rotate_left
               ·((intro w');(try go_simp);(try with_reducible rfl))
               (try simp only [Act.put,List.setIfInBounds_toArray,List.set_cons_zero,List.set_cons_succ])
               refine anyE_take (v:=?_) 3 rfl (by kernel_rfl) (by kernel_rfl) (by kernel_rfl) (by kernel_rfl) (by kernel_rfl) (fun _ _ _ h=>h) (Or.inl ⟨by rfl,?_⟩) (by assumption) ?_
               rotate_left
               ·((intro w' hSw);(try dsimp only at hSw);(try go_simp);(try with_reducible rfl))
               (try simp only [Act.put,List.setIfInBounds_toArray,List.set_cons_zero,List.set_cons_succ])
               refine anyE_takeW (v:=?_) 4 rfl (by kernel_rfl) (by kernel_rfl) (by kernel_rfl) (by decide) (fun _ _ _ h=>h) (Or.inl ⟨by rfl,?_⟩) (by assumption) ?_
               rotate_left
               ·((intro w');(try go_simp);(try with_reducible rfl))
               (try simp only [Act.put,List.setIfInBounds_toArray,List.set_cons_zero,List.set_cons_succ])
               refine anyE_takeW (v:=?_) 5 rfl (by kernel_rfl) (by kernel_rfl) (by kernel_rfl) (by decide) (fun _ _ _ h=>h) (Or.inl ⟨by rfl,?_⟩) (by assumption) ?_
               rotate_left
               ·((intro w');(try go_simp);(try with_reducible rfl))
               (try simp only [Act.put,List.setIfInBounds_toArray,List.set_cons_zero,List.set_cons_succ])
               refine anyE_takeW (v:=?_) 6 rfl (by kernel_rfl) (by kernel_rfl) (by kernel_rfl) (by decide) (fun _ _ _ h=>h) (Or.inl ⟨by rfl,?_⟩) (by assumption) ?_
               rotate_left
               ·((intro w');(try go_simp);(try with_reducible rfl))
               (try simp only [Act.put,List.setIfInBounds_toArray,List.set_cons_zero,List.set_cons_succ])
               refine anyE_takeW (v:=?_) 7 rfl (by kernel_rfl) (by kernel_rfl) (by kernel_rfl) (by decide) (fun _ _ _ h=>h) (Or.inl ⟨by rfl,?_⟩) (by assumption) ?_
               rotate_left
               ·((intro w');(try go_simp);(try with_reducible rfl))
               (try simp only [Act.put,List.setIfInBounds_toArray,List.set_cons_zero,List.set_cons_succ])
               refine anyE_take (v:=?_) 8 rfl (by kernel_rfl) (by kernel_rfl) (by kernel_rfl) (by kernel_rfl) (by kernel_rfl) (fun _ _ _ h=>h) (Or.inl ⟨by rfl,?_⟩) (by assumption) ?_
               rotate_left
               ·((intro w' hSw);(try dsimp only at hSw);(try go_simp);(try with_reducible rfl))
               (try simp only [Act.put,List.setIfInBounds_toArray,List.set_cons_zero,List.set_cons_succ])
               refine anyE_takeW (v:=?_) 9 rfl (by kernel_rfl) (by kernel_rfl) (by kernel_rfl) (by decide) (fun _ _ _ h=>h) (Or.inl ⟨by rfl,?_⟩) (by assumption) ?_
               rotate_left
               ·((intro w');(try go_simp);(try with_reducible rfl))
               (try simp only [Act.put,List.setIfInBounds_toArray,List.set_cons_zero,List.set_cons_succ])
               refine anyE_takeW (v:=?_) 10 rfl (by kernel_rfl) (by kernel_rfl) (by kernel_rfl) (by decide) (fun _ _ _ h=>h) (Or.inl ⟨by rfl,?_⟩) (by assumption) ?_
               rotate_left
               ·((intro w');(try go_simp);(try with_reducible rfl))
               (try simp only [Act.put,List.setIfInBounds_toArray,List.set_cons_zero,List.set_cons_succ])
               refine anyE_take (v:=?_) 11 rfl (by kernel_rfl) (by kernel_rfl) (by kernel_rfl) (by kernel_rfl) (by kernel_rfl) (fun _ _ _ h=>h) (Or.inl ⟨by rfl,?_⟩) (by assumption) ?_
               rotate_left
               ·((intro w' hSw);(try dsimp only at hSw);(try go_simp);(try with_reducible rfl))
               (try simp only [Act.put,List.setIfInBounds_toArray,List.set_cons_zero,List.set_cons_succ])
               refine anyE_take (v:=?_) 12 rfl (by kernel_rfl) (by kernel_rfl) (by kernel_rfl) (by kernel_rfl) (by kernel_rfl) (fun _ _ _ h=>h) (Or.inl ⟨by rfl,?_⟩) (by assumption) ?_
               rotate_left
               ·((intro w' hSw);(try dsimp only at hSw);(try go_simp);(try with_reducible rfl))
               (try simp only [Act.put,List.setIfInBounds_toArray,List.set_cons_zero,List.set_cons_succ])
               refine anyE_takeW (v:=?_) 13 rfl (by kernel_rfl) (by kernel_rfl) (by kernel_rfl) (by decide) (fun _ _ _ h=>h) (Or.inl ⟨by rfl,?_⟩) (by assumption) ?_
               rotate_left
               ·((intro w');(try go_simp);(try with_reducible rfl))
               (try simp only [Act.put,List.setIfInBounds_toArray,List.set_cons_zero,List.set_cons_succ])
               refine anyE_takeW (v:=?_) 14 rfl (by kernel_rfl) (by kernel_rfl) (by kernel_rfl) (by decide) (fun _ _ _ h=>h) (Or.inl ⟨by rfl,?_⟩) (by assumption) ?_
               rotate_left
               ·((intro w');(try go_simp);(try with_reducible rfl))
               (try simp only [Act.put,List.setIfInBounds_toArray,List.set_cons_zero,List.set_cons_succ])
               refine anyE_takeW (v:=?_) 15 rfl (by kernel_rfl) (by kernel_rfl) (by kernel_rfl) (by decide) (fun _ _ _ h=>h) (Or.inl ⟨by rfl,?_⟩) (by assumption) ?_
               rotate_left
               ·((intro w');(try go_simp);(try with_reducible rfl))
               (try simp only [Act.put,List.setIfInBounds_toArray,List.set_cons_zero,List.set_cons_succ])
               refine anyE_take (v:=?_) 16 rfl (by kernel_rfl) (by kernel_rfl) (by kernel_rfl) (by kernel_rfl) (by kernel_rfl) (fun _ _ _ h=>h) (Or.inl ⟨by rfl,?_⟩) (by assumption) ?_
               rotate_left
               ·((intro w' hSw);(try dsimp only at hSw);(try go_simp);(try with_reducible rfl))
               (try simp only [Act.put,List.setIfInBounds_toArray,List.set_cons_zero,List.set_cons_succ])
               refine anyE_takeW (v:=?_) 17 rfl (by kernel_rfl) (by kernel_rfl) (by kernel_rfl) (by decide) (fun _ _ _ h=>h) (Or.inl ⟨by rfl,?_⟩) (by assumption) ?_
               rotate_left
               ·((intro w');(try go_simp);(try with_reducible rfl))
               (try simp only [Act.put,List.setIfInBounds_toArray,List.set_cons_zero,List.set_cons_succ])
               refine anyE_takeW (v:=?_) 18 rfl (by kernel_rfl) (by kernel_rfl) (by kernel_rfl) (by decide) (fun _ _ _ h=>h) (Or.inl ⟨by rfl,?_⟩) (by assumption) ?_
               rotate_left
               ·((intro w');(try go_simp);(try with_reducible rfl))
               (try simp only [Act.put,List.setIfInBounds_toArray,List.set_cons_zero,List.set_cons_succ])
               refine anyE_take (v:=?_) 19 rfl (by kernel_rfl) (by kernel_rfl) (by kernel_rfl) (by kernel_rfl) (by kernel_rfl) (fun _ _ _ h=>h) (Or.inl ⟨by rfl,?_⟩) (by assumption) ?_
               rotate_left
               ·((intro w' hSw);(try dsimp only at hSw);(try go_simp);(try with_reducible rfl))
               (try simp only [Act.put,List.setIfInBounds_toArray,List.set_cons_zero,List.set_cons_succ])
               refine anyE_step 20 (by kernel_rfl) rfl (fun K hK=>?_)
               go_simp
               (go_at_call 163;refine (HMUL2.out _ hHeld.2.2.2.2.2.2.2.2.out).mono ?_)
               rintro e w5 ⟨rfl,hE5⟩
               go_wp2_with fail
               refine hK.out _ _ (⟨hE5.cell hHeld.1,hE5.cell hHeld.2.1,hE5.cell hHeld.2.2.1,hE5.cell hHeld.2.2.2.1,hE5.cell hHeld.2.2.2.2.1,hE5.cell hHeld.2.2.2.2.2.1,hE5.cell hHeld.2.2.2.2.2.2.1,hE5.cell hHeld.2.2.2.2.2.2.2.1,Ext.trans hHeld.2.2.2.2.2.2.2.2.out hE5⟩) (fun hHeld=>?_)
               clear hK K
               (try simp only [Act.put,List.setIfInBounds_toArray,List.set_cons_zero,List.set_cons_succ])
               refine anyE_step 21 (by kernel_rfl) rfl (fun K hK=>?_)
               go_simp
               (go_at_call 165;refine (HSUB.out _ hHeld.2.2.2.2.2.2.2.2.out).mono ?_)
               rintro e w5 ⟨rfl,hE5⟩
               go_wp2_with fail
               refine hK.out _ _ (⟨hE5.cell hHeld.1,hE5.cell hHeld.2.1,hE5.cell hHeld.2.2.1,hE5.cell hHeld.2.2.2.1,hE5.cell hHeld.2.2.2.2.1,hE5.cell hHeld.2.2.2.2.2.1,hE5.cell hHeld.2.2.2.2.2.2.1,hE5.cell hHeld.2.2.2.2.2.2.2.1,Ext.trans hHeld.2.2.2.2.2.2.2.2.out hE5⟩) (fun hHeld=>?_)
               clear hK K
               (try simp only [Act.put,List.setIfInBounds_toArray,List.set_cons_zero,List.set_cons_succ])
               refine anyE_takeW (v:=?_) 22 rfl (by kernel_rfl) (by kernel_rfl) (by kernel_rfl) (by decide) (fun _ _ _ h=>h) (Or.inl ⟨by rfl,?_⟩) (by assumption) ?_
               rotate_left
               ·((intro w');(try go_simp);(try with_reducible rfl))
               (try simp only [Act.put,List.setIfInBounds_toArray,List.set_cons_zero,List.set_cons_succ])
               have z1:=hHeld.2.2.1
               have z2:=hHeld.2.2.2.1
               obtain ⟨z4,z5⟩:=HFR.out _ hHeld.2.2.2.2.2.2.2.2.out
               have HM7:=HNEXT.out _ hHeld.2.2.2.2.2.2.2.2.out
               refine anyE_last 23 (by kernel_rfl) (by kernel_rfl) (by kernel_rfl) rfl (fun K hK=>?_)
               go_simp
               refine hK.out _ _ ?_
               clear hK K
               (try simp only [Act.put,List.setIfInBounds_toArray,List.set_cons_zero,List.set_cons_succ])
               go_wp2_with fail
               go_roundw
               case rel=>exact ⟨j+1,by go_num,by omega,HM7.1,HM7.2⟩
               case measure=>simp [intOf];omega
              ·have HREL:Hid (MidR w wk g0 w.heap.size tags0 (elimTo m2 p c k (i+1)) dd (.slice av k cv) ld tags1):=by
                have h8:=HMJ.out
                rw [partN_all _ _ _ HSL.out (by rw [HRI.out.2.1];omega)] at h8
                unfold Hid
                rw [HSTEP2.out]
                exact h8
               go_wp2_with fail
               go_roundw
               case rel=>exact ⟨i+1,by go_num,by omega,HREL.out⟩
               case measure=>simp [intOf];omega
          ·have HM3:Hid (MidR w wi g0 w.heap.size tags0 (elimTo m2 p c k L) dd (.slice av k cv) ld tags1):=by
            have hiL2:i=L:=by omega
            rw [← hiL2];exact HMI.out
           have HB3:=Lib.hid HM3.out.lead.build
           have HLL:Hid (ld.length<1000000):=by unfold Hid;rw [← HK.out];omega
           have hszr:w.heap.size+1≤wi.heap.size:=HM3.out.size
           go_wp2_with (at_builtin;go_must (refine wpList_append_build _ rfl _ _ 26 rfl (w.heap.size+1) 3 (.int .i64 0) 1 8 Tryz.underlying26 infoInt rfl (by decide) (.slice av k cv) idxR ld c #[.int .i64 c] 3 rfl HB3.out rfl rfl ?e1 (fun _ _=>rfl) HLL.out (by decide) hszr ?_))
           all_goals first | (simp [Value.oneCell'];done) | skip
           intro v' w5 hB5 hg5 hb5 hs5 _
           have HF:=Lib.hid ((HM3.out.push HBG1.out (Nat.le_refl _) hb5 hB5.ownI).redOf HNX.out)
           clear hB5 hg5 hb5 HB3
           go_wp2_with fail
           go_roundw
           case rel=>exact ⟨c+1,tags1,by omega,by go_num,HF.out⟩
           case measure=>simp [intOf];omega
    ·obtain rfl:a=L:=by omega
     have HMID:Hid (MidR w wi g0 w.heap.size tags0 m d (.slice av k cv) ld tags) :=
      ⟨HMM.out.ext HE.out,HBB.out.ext HE.out,HLD.out.ext HE.out,HSAME.out,HP.out.trans (HE.out.grownS _),Nat.lt_of_lt_of_le HDS.out HE.out.size⟩
     obtain ⟨z,hz⟩:∃ z:Rat,z=0:=⟨_,rfl⟩
     have HNX:Hid (redTo m0 (c+1)=⟨m,ld,z⟩):=by
      unfold Hid
      rw [HST.out,stepR_none,hz]
      rw [HRC.out.2,← HK.out]
      exact findP_eq m c _ k a hka (by omega) HZ.out (fun h=>by omega)
     have HZERO:Hid (∀ W,Calls Tryz.prog 161 #[] W fun e w'=>e=.returned (.agg #[.string (intB z.num),.string (numB z.den)])∧Ext W w'):=by
      unfold Hid;rw [hz];exact fun W=>tzero_any W
     clear hz HST HZ HMM HBB HLD
     go_wp2_with fail
     refine (HZERO.out _).mono ?_
     rintro e w5 ⟨rfl,hE5⟩
     have HM5:=Lib.hid (HMID.out.ext hE5)
     obtain ⟨b0,b1,b2,b3⟩:=HM5.out.box.cells
     have HF:=Lib.hid (HM5.out.setBox HBG.out (Nat.le_refl _) z)
     clear hE5 HZERO
     go_wp2_with fail
     go_roundw
     case rel=>exact ⟨c+1,tags,by omega,by go_num,HF.out.redOf HNX.out⟩
     case measure=>simp [intOf];omega
  ·obtain rfl:c=n:=by omega
   have HMID:=Lib.hid HR.out.mid
   have HBG:Hid (∀ b,blocksQ g0 tags b→b<w.heap.size):=fun b hb=>HBW.out b ((HR.out.same b).1 hb)
   obtain ⟨d,hd⟩:∃ d,d=(redTo m0 c).det:=⟨_,rfl⟩
   rw [← hd] at HMID
   have HDD:Hid (d=(redTo m0 c).det):=hd
   have HM6:=Lib.hid (HMID.out.ext (Ext.drew _))
   obtain ⟨b0,b1,b2,b3⟩:=HMID.out.box.cells
   have HF:=Lib.hid (HM6.out.setBox HBG.out (Nat.le_refl _) d)
   clear hd HR HP HEB HOK HSH
   go_wp2_with fail
   go_region
   all_goals
    go_wp2_with fail
    refine bodyPost_ret (results_tmp_cell (by rfl) _ _ w.heap.size 152 #[.string (intB d.num),.string (numB d.den)] (0,0) _ (.slice av k cv) (by rfl) (by rfl) HF.out.box Tryz.underlying152 (by rfl) (by kernel_rfl)) (by rfl) ⟨_,tags,by rw [← HDD.out];rfl,HF.out.lead.low (Nat.le_succ _),HF.out.mat,HF.out.same,HF.out.grown⟩
end Go.Proofs.YtjlkkofmojgipaaGreatDoor
