import Derived.RangeFuncNested
import Derived.RangeFuncBound
import Derived.RangeFuncCalls
import Derived.RangeFuncLeaves
import Derived.Shelf.Abstract
import Derived.Shelf.RegionOpen
import Derived.WalkKit
import Derived.OwnWalkIn
import Derived.TacticsInMore
import Derived.LoopNIn
import Derived.LoopIn
import Derived.RangeFuncBox
import Derived.Test.YtjlkkofmojgipaaGreatDoorPAA
import Derived.Test.YtjlkkofmojgipaaGreatDoorPAF
import Derived.Sort.QuietIn
namespace Go.Proofs.YtjlkkofmojgipaaGreatDoor
set_option linter.unusedVariables false
set_option linter.unusedSimpArgs false
open Go.RowKit Go.Shelf
structure KeepT (T:TypeId) (A B:World):Prop where
 size:A.heap.size≤B.heap.size
 same:∀ (b:Nat) C fr,A.heap[b]?=some (.cells C T fr)→B.heap[b]?=some (.cells C T fr)
theorem KeepT.refl (T:TypeId) (A:World):KeepT T A A:=⟨Nat.le_refl _,fun _ _ _ h=>h⟩
theorem KeepT.trans {T:TypeId} {A B C:World} (h:KeepT T A B) (k:KeepT T B C):KeepT T A C:=⟨Nat.le_trans h.size k.size,fun b C fr hb=>k.same b C fr (h.same b C fr hb)⟩
def AbT {β:Type} (B:Nat) (T:TypeId) (J:β→World→Prop):Prop :=
 ∀ s W W' row,J s W→W.grownBy W' row→(∀ r,row=some r→B≤r∧∃ o:Obj,W.heap[r]?=some o∧(o.isCells=false∨∃ C fr,o=.cells C T fr))→J s W'
def AbC {β:Type} (B:Nat) (T:TypeId) (J:β→World→Prop):Prop :=
 ∀ s W W' row,J s W→W.grownBy W' row→(∀ r,row=some r→B≤r∧∃ C fr,W.heap[r]?=some (.cells C T fr))→J s W'
structure SetAt (T:TypeId) (W:World) (v:Value) (s:List Nat):Prop where
 at_:∃ g C fr,v=.slice (some ⟨g,0,none⟩) s.length s.length∧W.heap[g]?=some (.cells C T fr)∧∀ (j:Nat) x,s[j]?=some x→W.cell? ⟨g,j,none⟩=some (.int .i64 (x:Int))
theorem SetAt.keep {T:TypeId} {W W':World} {v:Value} {s:List Nat} (h:SetAt T W v s) (hk:KeepT T W W'):SetAt T W' v s:=by
 obtain ⟨g,C,fr,h1,h2,h3⟩:=h.at_
 refine ⟨g,C,fr,h1,hk.same g C fr h2,fun j x hx=>?_⟩
 have hb:W'.heap[g]?=W.heap[g]?:=(hk.same g C fr h2).trans h2.symm
 have:=h3 j x hx
 unfold World.cell? at this ⊢
 rw [hb];exact this
def SetsGive (F:Fence) (n:Nat) (P:Program) (g:Nat) (lb:Array Value) (T:TypeId) (L:List (List Nat)) (w:World):Prop :=
 ∀ (l:Nat) (J:Nat→World→Prop) (W:World),Below w.heap.size w W→AbC W.heap.size T J →
  (∀ i s v W1,L[i]?=some s→J i W1→SetAt T W1 v s→YieldAt F (n-1) P l #[v] W1 fun e W'=>e=.returned (.bool true)∧J (i+1) W'∧KeepT T W1 W') →
  J 0 W→CallsIn F n P g (#[.func (.yield l) #[] #[]]++lb) W fun e W'=>(∃ v,e=.returned v)∧J L.length W'
theorem SetsGive.inRound {F:Fence} {n:Nat} {P:Program} {g:Nat} {lb:Array Value} {T:TypeId} {L:List (List Nat)} {w:World} (l:Nat) (h:SetsGive F n P g lb T L w):SetsGive (F.inRound l) n P g lb T L w:=h
def recL (fn:FuncId) (tmps:Array Value) (ps:Array Tmp) (assign body:Code) (dd:Nat) (st:LoopState):Loop:={ state:=st,pending:=none,fn:=fn,tmps:=tmps,params:=ps,assign:=assign,body:=body,defers:=dd }
theorem keeps_put {B:Nat} {T:TypeId} {W:World} {l:Nat} {r:Loop} (hl:W.heap[l]?=some (.loop r)) (o:Obj):KeepT T W (W.putObj l o) :=
 ⟨by simp,fun b C fr hb=>by
  rw [World.putObj_heap_other]
  ·exact hb
  ·intro e;subst e;rw [hl] at hb;simp at hb⟩
theorem keeps_cells {T:TypeId} {W W':World} {row:Option Nat} (hg:W.grownBy W' row) {k:Nat} {o:Obj} (hk:W.heap[k]?=some o) (ho:o.isCells=false) (hr:∀ r,row=some r→∃ C fr,W.heap[r]?=some (.cells C T fr)):W'.heap[k]?=some o:=by
 refine (hg.block k (Array.getElem?_eq_some_iff.1 hk).1 fun e=>?_).trans hk
 obtain ⟨C,fr,h⟩:=hr k e.symm
 rw [hk] at h
 cases h
 simp [Obj.isCells] at ho
def RoundsOk (F:Fence) (n:Nat) (P:Program) (l B:Nat) (T:TypeId) (L:List (List Nat)) (I:Nat→World→Prop) (ps:Array Tmp) (tmps:Array Value) (assign body:Code):Prop :=
 ∀ i s v W,L[i]?=some s→I i W→SetAt T W v s→(∃ r,W.heap[l]?=some (.loop r)) →
  assign.wpIn (F.inRound l) n P (Exit.then (fun a' Wa=>KeepsFrom B W Wa∧KeepT T W Wa ∧
   ∀ Wb,Wa.grownBy Wb (some l)→(∃ r,Wa.heap[l]?=some (.loop r))→(∃ r,Wb.heap[l]?=some (.loop r))→KeepT T Wa Wb →
    body.wpIn (F.inRound l) n P (fun e _ W3=>e=.normal∧KeepsFrom B Wb W3∧KeepT T Wb W3∧I (i+1) W3) a' Wb) (fun _ _ _=>False))
   { tmps:=(ps.zip #[v]).foldl (fun t (p,u)=>t.setIfInBounds p u) tmps,defers:=[] } W
theorem rounds_core {F:Fence} {n:Nat} {P:Program} {gf:Nat} {lb:Array Value} {T:TypeId} {L:List (List Nat)} {w0 W1:World} {l B dd:Nat} {fn:FuncId} {tmps:Array Value} {ps:Array Tmp} {assign body:Code} {I:Nat→World→Prop}
  (hfn:F.fn fn) (hseq:SetsGive F n P gf lb T L w0) (hb1:Below w0.heap.size w0 W1) (hps:ps.size=1) (hB:B≤l) (hB1:B≤W1.heap.size) (hl:W1.heap[l]?=some (.loop (recL fn tmps ps assign body dd .ready)))
  (eD:Option Nat) (hD:∀ D,eD=some D→D≠l∧B≤D∧W1.heap[D]?=some (.deferred (some []))) (hI:AbT B T I) (h0:I 0 W1)
  (hround:RoundsOk F (n-1) P l B T L I ps tmps assign body) :
  CallsIn F n P gf (#[.func (.yield l) #[] #[]]++lb) W1 fun e W'=>(∃ v,e=.returned v)∧I L.length W'∧W'.heap[l]?=some (.loop (recL fn tmps ps assign body dd .ready))∧∀ D,eD=some D→W'.heap[D]?=some (.deferred (some [])):=by
 refine hseq l (fun i W=>I i W∧W.heap[l]?=some (.loop (recL fn tmps ps assign body dd .ready))∧∀ D,eD=some D→W.heap[D]?=some (.deferred (some []))) W1 hb1 ?_ ?_ ⟨h0,hl,fun D e=>(hD D e).2.2⟩
 ·rintro i A A' row ⟨k1,k2,k3⟩ hg hr
  refine ⟨hI i A A' row k1 hg (fun r e=>?_),keeps_cells hg k2 rfl (fun r e=>(hr r e).2),fun D e=>keeps_cells hg (k3 D e) rfl (fun r e=>(hr r e).2)⟩
  obtain ⟨h1,C,fr,h2⟩:=hr r e
  exact ⟨Nat.le_trans hB1 h1,_,h2,.inr ⟨C,fr,rfl⟩⟩
 ·rintro i s v W hs ⟨k1,k2,k3⟩ hv
  have hy:=run_yield (P:=P) (args:=#[v]) k2 (by simp [recL,hps])
  refine ⟨fn,_,assign,body,hy,roundIn_of_wpIn hfn (wpIn_mono (hround i s v W hs k1 hv ⟨_,k2⟩) ?_)⟩
  rintro e a' Wa hp
  cases e with
  | normal =>
   obtain ⟨p1,p2,p3⟩:=hp
   have m2:=p1.same _ _ hB k2 rfl
   have m3:∀ D,eD=some D→Wa.heap[D]?=some (.deferred (some [])):=fun D e=>p1.same _ _ (hD D e).2.1 (k3 D e) rfl
   have hlt:l<Wa.heap.size:=(Array.getElem?_eq_some_iff.1 m2).1
   refine ⟨_,run_beginRound m2 rfl,?_⟩
   have b2:(Wa.putObj l (.loop { recL fn tmps ps assign body dd .ready with state:=.busy })).heap[l]?=some (.loop { recL fn tmps ps assign body dd .ready with state:=.busy }):=World.putObj_heap_same hlt
   have b3:∀ D,eD=some D→(Wa.putObj l (.loop { recL fn tmps ps assign body dd .ready with state:=.busy })).heap[D]?=some (.deferred (some [])):=fun D e=>(World.putObj_heap_other (hD D e).1).trans (m3 D e)
   have bk:=keeps_put (B:=B) (T:=T) m2 (.loop { recL fn tmps ps assign body dd .ready with state:=.busy })
   refine wpIn_mono (p3 _ (grownBy_putObj' Wa l _) ⟨_,m2⟩ ⟨_,b2⟩ bk) ?_
   rintro e a3 W3 ⟨rfl,q1,q2,q3⟩
   have c2:=q1.same _ _ hB b2 rfl
   have c3:∀ D,eD=some D→W3.heap[D]?=some (.deferred (some [])):=fun D e=>q1.same _ _ (hD D e).2.1 (b3 D e) rfl
   have hr:=run_endRound (P:=P) none c2
   have hlt3:l<W3.heap.size:=(Array.getElem?_eq_some_iff.1 c2).1
   refine ⟨_,_,hr,rfl,⟨?_,?_,fun D e=>(World.putObj_heap_other (hD D e).1).trans (c3 D e)⟩,?_⟩
   ·exact hI _ _ _ _ q3 (grownBy_putObj' W3 l _) (fun r e=>by cases e;exact ⟨hB,_,c2,.inl rfl⟩)
   ·rw [World.putObj_heap_same hlt3];rfl
   ·exact p2.trans (bk.trans (q2.trans (keeps_put (B:=B) c2 _)))
  | _=>exact hp.elim
theorem wpIn_rangeSets {F:Fence} {n:Nat} {P:Program} {g:Operand} {ps:Array Tmp} {assign body:Code} {Q:Exit→Act→World→Prop} {a:Act} {w:World}
  (hro:F.round=none) (h1:1≤n) {gf:Nat} {lb:Array Value} (hg:a.eval g=.func (.func gf) #[] lb) (hFg:F.fn gf) (eg:∀ args w,(callFunc gf args).run P w=.ok (.enter gf args) w)
  {T:TypeId} {L:List (List Nat)} {w0:World} (hseq:SetsGive F (n-1) P gf lb T L w0) (hb0:Below w0.heap.size w0 w) (hps:ps.size=1) (I:Nat→World→Prop) (hI:AbT w.heap.size T I) (h0:I 0 w)
  (hround:RoundsOk F (n-1-1) P (w.heap.size+1) w.heap.size T L I ps a.tmps assign body)
  (hdone:∀ W,I L.length W→W.heap[w.heap.size]?=some (.deferred (some []))→Q .normal { a with defers:={ target:=.collected w.heap.size,args:=#[] }::a.defers } W) :
  (Code.rangeFunc g ps assign body).wpIn F n P Q a w:=by
 refine wpIn_rangeFunc ?_
 intro fn hfn
 rw [hro]
 obtain ⟨W1,hW1⟩:∃ W1,(w.alloc (.deferred (some []))).alloc (.loop (recL fn a.tmps ps assign body w.heap.size .ready))=W1:=⟨_,rfl⟩
 have hL1:W1.heap[w.heap.size+1]?=some (.loop (recL fn a.tmps ps assign body w.heap.size .ready)):=by
  rw [← hW1];have:=World.alloc_heap_new (w.alloc (.deferred (some []))) (.loop (recL fn a.tmps ps assign body w.heap.size .ready));rwa [World.size_alloc] at this
 have hK1:W1.heap[w.heap.size]?=some (.deferred (some [])):=by
  rw [← hW1];exact (Below.heap_alloc _ _ _ (by simp)).trans (World.alloc_heap_new w _)
 have hx1:Below w.heap.size w W1:=by
  rw [← hW1];exact ((Below.refl _ w).alloc (Nat.le_refl _) _).alloc (by simp) _
 have hI1:I 0 W1:=hI 0 w W1 none h0 ⟨hx1.os,hx1.tape,hx1.output,hx1.size,fun k hk _=>hx1.block k hk⟩ (fun r e=>by cases e)
 refine ⟨w.heap.size+1,[{ target:=.collected w.heap.size,args:=#[] }],W1,{ target:=.fn (.func gf) lb,args:=#[.func (.yield (w.heap.size+1)) #[] #[]] },W1,gf,
  #[.func (.yield (w.heap.size+1)) #[] #[]]++lb,W1,?_,?_,?_,?_,fun _=>h1,?_⟩
 ·rw [← hW1];exact run_enterLoop_outer _ _ _ _ _
 ·simp only [resolve,hg]
  simp [go_sem]
 ·intro f' hf';simp [Target.leads] at hf';subst hf';exact hFg
 ·simp [invoke,go_sem,eg]
 ·refine (rounds_core hfn hseq (hb0.trans (hx1.mono hb0.size)) hps (by omega) hx1.size hL1 (some w.heap.size) (fun D e=>by cases e;exact ⟨by omega,Nat.le_refl _,hK1⟩) hI hI1 hround).mono ?_
  rintro e W2 ⟨⟨v,rfl⟩,hi,hl,hk⟩
  refine ⟨none,_,by have:=run_endLoop (P:=P) hl (by simp [recL]);exact this,hdone _ (hI _ _ _ _ hi (grownBy_putObj' W2 _ _) (fun r e=>by cases e;exact ⟨by omega,_,hl,.inl rfl⟩)) ((World.putObj_heap_other (by omega)).trans (hk _ rfl))⟩
theorem wpIn_rangeSetsN {F:Fence} {n:Nat} {P:Program} {g:Operand} {ps:Array Tmp} {assign body:Code} {Q:Exit→Act→World→Prop} {a:Act} {w:World}
  {l₀:Nat} {r₀:Loop} (hro:F.round=some l₀) (hl₀:w.heap[l₀]?=some (.loop r₀)) (h1:1≤n) {gf:Nat} {lb:Array Value} (hg:a.eval g=.func (.func gf) #[] lb) (hFg:F.fn gf) (eg:∀ args w,(callFunc gf args).run P w=.ok (.enter gf args) w)
  {T:TypeId} {L:List (List Nat)} {w0:World} (hseq:SetsGive F (n-1) P gf lb T L w0) (hb0:Below w0.heap.size w0 w) (hps:ps.size=1) (I:Nat→World→Prop) (hI:AbT w.heap.size T I) (h0:I 0 w)
  (hround:RoundsOk F (n-1-1) P w.heap.size w.heap.size T L I ps a.tmps assign body)
  (hdone:∀ W,I L.length W→Q .normal a W) :
  (Code.rangeFunc g ps assign body).wpIn F n P Q a w:=by
 refine wpIn_rangeFunc ?_
 intro fn hfn
 rw [hro]
 obtain ⟨W1,hW1⟩:∃ W1,w.alloc (.loop (recL fn a.tmps ps assign body r₀.defers .ready))=W1:=⟨_,rfl⟩
 have hL1:W1.heap[w.heap.size]?=some (.loop (recL fn a.tmps ps assign body r₀.defers .ready)):=by rw [← hW1];exact World.alloc_heap_new w _
 have hx1:Below w.heap.size w W1:=by
  rw [← hW1];exact (Below.refl _ w).alloc (Nat.le_refl _) _
 have hI1:I 0 W1:=hI 0 w W1 none h0 ⟨hx1.os,hx1.tape,hx1.output,hx1.size,fun k hk _=>hx1.block k hk⟩ (fun r e=>by cases e)
 refine ⟨w.heap.size,[],W1,{ target:=.fn (.func gf) lb,args:=#[.func (.yield w.heap.size) #[] #[]] },W1,gf,
  #[.func (.yield w.heap.size) #[] #[]]++lb,W1,?_,?_,?_,?_,fun _=>h1,?_⟩
 ·rw [← hW1];exact run_enterLoop_inner hl₀ _ _ _ _ _
 ·simp only [resolve,hg]
  simp [go_sem]
 ·intro f' hf';simp [Target.leads] at hf';subst hf';exact hFg
 ·simp [invoke,go_sem,eg]
 ·refine (rounds_core hfn hseq (hb0.trans (hx1.mono hb0.size)) hps (Nat.le_refl _) hx1.size hL1 none (fun D e=>by cases e) hI hI1 hround).mono ?_
  rintro e W2 ⟨⟨v,rfl⟩,hi,hl,-⟩
  refine ⟨none,_,by have:=run_endLoop (P:=P) hl (by simp [recL]);exact this,hdone _ (hI _ _ _ _ hi (grownBy_putObj' W2 _ _) (fun r e=>by cases e;exact ⟨Nat.le_refl _,_,hl,.inl rfl⟩))⟩
attribute [local go_sem] Oper.semAt_some
theorem wpListIn_make_full {F:Fence} {n:Nat} {P:Program} (w:World) {ops:Array Oper} {rest:List Oper} {o:Oper} {a:Act} {Q:Exit→Act→World→Prop}
  (hg:o.guard=none) (l c:Operand) (t:TypeId) (hop:o.op=Op.makeSlice t l c)
  (base:Nat) (e:TypeId) (i:TypeInfo) (z:Value) (size:Nat) (h1:P.underlying t=some (.slice e)) (h2:P.info? e=some i) (h3:i.zero=some z) (h4:i.size=size)
  (kl kc:IntKind) (L C:Int) (m:Nat) (hl:a.eval l=.int kl L) (hc:a.eval c=.int kc C) (hL:L=(m:Int)) (hC:C=(m:Int)) (b2:i.bytes*m≤281474976710656) (b3:m≤maxLen) (b4:base≤w.heap.size)
  (hK:∀ w',w'.ownsRow base e size (.slice (some ⟨w.heap.size,0,none⟩) m m) m (madeCells z.cells (m*size)).toList→w.grownBy w' none→wpListIn F n P ops Q rest (a.put o.dst (.slice (some ⟨w.heap.size,0,none⟩) m m)) w') :
  wpListIn F n P ops Q (o::rest) a w:=by
 refine wpListIn_plain hg fun K hK'=>?_
 obtain ⟨w',hrun,r1,r2⟩:=run_make_full (P:=P) w base t e i z size h1 h2 h3 h4 kl kc m b2 b3 b4
 subst hL
 subst hC
 unfold Oper.wpIn
 refine ⟨?_,?_⟩
 ·simp [Oper.about,hop]
 ·rw [Oper.semAt_plain F _ _ (by rw [hop];intro c hc';cases hc')]
  simp [execOp,hop,hl,hc,hrun,Result.andThen]
  exact hK' _ _ (hK w' r1 r2)
def natsV (l:List Nat):List Value:=l.map fun x:Nat=>Value.int .i64 (x:Int)
structure ItS (J:Nat→World→Prop) (i:Nat) (B g k N B1 B2:Nat) (wr:World) (cur:List Nat):Prop where
 j:J i wr
 own:wr.ownsRow B 3 1 (.slice (some ⟨g,0,none⟩) k k) k (natsV cur)
 b1:Boxed wr B1 3 (.int .i64 (k:Int))
 b2:Boxed wr B2 3 (.int .i64 (N:Int))
 lt1:B1<B
 lt2:B2<B
theorem ItS.len {J:Nat→World→Prop} {i B g k N B1 B2:Nat} {wr:World} {cur:List Nat} (h:ItS J i B g k N B1 B2 wr cur):cur.length=k:=by
 have:=h.own.1
 unfold natsV at this
 rw [List.length_map] at this
 omega
theorem ItS.block {J:Nat→World→Prop} {i B g k N B1 B2:Nat} {wr:World} {cur:List Nat} (h:ItS J i B g k N B1 B2 wr cur):∃ C,wr.heap[g]?=some (.cells C 3 (0,0))∧B≤g:=by
 rcases h.own.2 with ⟨hv,_⟩ | ⟨g',cap,C,hv,hb,hg,_⟩
 ·simp at hv
 ·simp only [Value.slice.injEq,Option.some.injEq,Addr.mk.injEq] at hv
  obtain ⟨⟨rfl,-,-⟩,-,-⟩:=hv
  exact ⟨C,hg,hb⟩
theorem ItS.cell {J:Nat→World→Prop} {i B g k N B1 B2:Nat} {wr:World} {cur:List Nat} (h:ItS J i B g k N B1 B2 wr cur) {j x:Nat} (hx:cur[j]?=some x):wr.cell? ⟨g,j,none⟩=some (.int .i64 (x:Int))∧wr.frozen? ⟨g,j,none⟩=false:=by
 have hj:=(List.getElem?_eq_some_iff.1 hx).1
 have hl:=h.len
 exact ⟨(h.own.cellAt j (by omega)).trans (by simp [natsV,hx]),h.own.frozenAt j⟩
theorem ItS.set {J:Nat→World→Prop} {i B g k N B1 B2:Nat} {wr:World} {cur:List Nat} (h:ItS J i B g k N B1 B2 wr cur) (hJ:AbC B 3 J) (j x:Nat):ItS J i B g k N B1 B2 (wr.setCell ⟨g,j,none⟩ (.int .i64 (x:Int))) (cur.set j x):=by
 obtain ⟨C,hC,hB⟩:=h.block
 have hg:=grown_setCell wr g j (.int .i64 (x:Int))
 have h1:=h.lt1;have h2:=h.lt2
 refine ⟨hJ i wr _ _ h.j hg (fun r e=>by cases e;exact ⟨hB,C,_,hC⟩),?_,h.b1.kept hg (fun e=>by simp at e;omega),h.b2.kept hg (fun e=>by simp at e;omega),h.lt1,h.lt2⟩
 unfold natsV
 rw [List.map_set]
 exact (h.own.stored j _).1
theorem ItS.setAt {J:Nat→World→Prop} {i B g k N B1 B2:Nat} {wr:World} {cur:List Nat} (h:ItS J i B g k N B1 B2 wr cur):SetAt 3 wr (.slice (some ⟨g,0,none⟩) k k) cur:=by
 obtain ⟨C,hC,hB⟩:=h.block
 have hl:=h.len
 exact ⟨g,C,(0,0),by rw [hl],hC,fun j x hx=>(h.cell hx).1⟩
theorem ItS.round {J:Nat→World→Prop} {i B g k N B1 B2:Nat} {wr w':World} {cur:List Nat} (h:ItS J i B g k N B1 B2 wr cur) (hj:J (i+1) w') (hk:KeepT 3 wr w'):ItS J (i+1) B g k N B1 B2 w' cur:=by
 refine ⟨hj,⟨h.own.1,?_⟩,hk.same _ _ _ h.b1,hk.same _ _ _ h.b2,h.lt1,h.lt2⟩
 rcases h.own.2 with h' | ⟨g',cap,C,hv,hb,hg,rest⟩
 ·exact .inl h'
 ·exact .inr ⟨g',cap,C,hv,hb,hk.same _ _ _ hg,rest⟩
theorem ItS.drawn {J:Nat→World→Prop} {i B g k N B1 B2:Nat} {wr:World} {cur:List Nat} (h:ItS J i B g k N B1 B2 wr cur) (hJ:AbC B 3 J) (n:Nat):ItS J i B g k N B1 B2 (wr.drewN n) cur:=by
 have hg:wr.grownBy (wr.drewN n) none:=(Ext.drewN wr n).grown none
 exact ⟨hJ i wr _ none h.j hg (fun r e=>by cases e),h.own.kept hg (by simp [Value.ownBlock]),h.b1.kept hg (by simp),h.b2.kept hg (by simp),h.lt1,h.lt2⟩
def encW (w:World) (g k:Nat):Nat:=encS ((List.range k).map fun j=>match w.cell? ⟨g,j,none⟩ with | some (.int _ x)=>x.toNat | _=>0)
theorem ItS.enc {J:Nat→World→Prop} {i B g k N B1 B2:Nat} {wr:World} {cur:List Nat} (h:ItS J i B g k N B1 B2 wr cur):encW wr g k=encS cur:=by
 unfold encW
 congr 1
 have hl:=h.len
 apply List.ext_getElem
 ·simp [hl]
 ·intro j h1 h2
  rw [List.getElem_map,List.getElem_range,(h.cell (List.getElem?_eq_getElem h2)).1]
  simp
def initS (k i:Nat):List Nat:=List.range i++List.replicate (k-i) 0
theorem initS_set {k i:Nat} (h:i<k):(initS k i).set i i=initS k (i+1):=by
 unfold initS
 rw [List.set_append_right i i (by simp),List.length_range,show i-i=0 by omega,show k-i=(k-(i+1))+1 by omega,List.replicate_succ,List.set_cons_zero,List.range_succ,List.append_assoc]
 rfl
theorem initS_get {k i:Nat} (h:i<k):(initS k i)[i]?=some 0:=by
 unfold initS
 rw [List.getElem?_append_right (by simp),List.length_range,show i-i=0 by omega,show k-i=(k-(i+1))+1 by omega,List.replicate_succ]
 rfl
theorem initS_all (k:Nat):initS k k=List.range k:=by simp [initS]
def midS (s:List Nat) (k i j:Nat):List Nat:=s.take i++((List.range (j-i)).map fun q=>s.getD i 0+1+q)++s.drop j
theorem midS_len {s:List Nat} {k i j:Nat} (hs:s.length=k) (hij:i≤j) (hj:j≤k):(midS s k i j).length=k:=by
 unfold midS;simp [hs];omega
theorem midS_start {s:List Nat} {k i:Nat} (hs:s.length=k) (hi:i<k):s.set i (s.getD i 0+1)=midS s k i (i+1):=by
 unfold midS
 rw [show i+1-i=1 by omega]
 apply List.ext_getElem?
 intro q
 rw [List.getElem?_set]
 by_cases e:i=q
 ·subst e
  rw [if_pos rfl,if_pos (by omega),List.append_assoc,List.getElem?_append_right (by simp;omega),List.length_take,show i-min i s.length=0 by omega]
  rfl
 ·rw [if_neg e,List.append_assoc]
  by_cases hq:q<i
  ·rw [List.getElem?_append_left (by simp;omega),List.getElem?_take,if_pos hq]
  ·rw [List.getElem?_append_right (by simp;omega),List.length_take,show q-min i s.length=(q-i-1)+1 by omega]
   simp [List.getElem?_drop]
   congr 1
   omega
theorem midS_get {s:List Nat} {k i j:Nat} (hs:s.length=k) (hij:i<j) (hj:j≤k):(midS s k i j)[j-1]?=some (s.getD i 0+(j-i)):=by
 unfold midS
 rw [List.append_assoc,List.getElem?_append_right (by simp;omega),List.length_take,List.getElem?_append_left (by simp;omega),show j-1-min i s.length=j-i-1 by omega,List.getElem?_map,List.getElem?_range (by omega)]
 simp;omega
theorem midS_old {s:List Nat} {k i j:Nat} (hs:s.length=k) (hij:i<j) (hj:j<k):∃ x,(midS s k i j)[j]?=some x:=by
 have:=midS_len (s:=s) (k:=k) (i:=i) (j:=j) hs (by omega) (by omega)
 exact ⟨_,List.getElem?_eq_getElem (by omega)⟩
theorem midS_set {s:List Nat} {k i j:Nat} (hs:s.length=k) (hij:i<j) (hj:j<k):(midS s k i j).set j (s.getD i 0+(j-i)+1)=midS s k i (j+1):=by
 unfold midS
 have h1:(s.take i++((List.range (j-i)).map fun q=>s.getD i 0+1+q)).length=j:=by simp;omega
 rw [List.set_append_right _ _ (by omega),h1,show j-j=0 by omega,List.drop_eq_getElem_cons (by omega),List.set_cons_zero,show j+1-i=(j-i)+1 by omega,List.range_succ,List.map_append,List.append_assoc,List.append_assoc,List.append_assoc]
 simp;omega
theorem midS_end {s:List Nat} {n k i:Nat} (hs:s.length=k) (ht:topI n k s k=some i):nxtS n k s=some (midS s k i k):=by
 unfold nxtS midS
 rw [ht,List.drop_eq_nil_of_le (by omega),List.append_nil]
set_option maxRecDepth 100000 in
set_option maxHeartbeats 4000000 in
theorem sets1_in (n:Nat) (hn:1≤n) (N k:Nat) (hkN:k≤N) (hN:N≤12) (L:List (List Nat)) (hL:SetsS N k L) (B1 B2:Nat) (w:World) (h1:Boxed w B1 3 (.int .i64 (k:Int))) (h2:Boxed w B2 3 (.int .i64 (N:Int))) :
  SetsGive Fence.wide n Tryz.prog 158 #[.pointer (some ⟨B1,0,none⟩),.pointer (some ⟨B2,0,none⟩)] 3 L w:=by
 intro l J W hW hJ hY h0
 obtain ⟨i0,hi,hz0,hz1,hz2⟩:=info_parts infoInt
 have HI:=Lib.hid hi;have HZ0:=Lib.hid hz0;have HZ1:=Lib.hid hz1;have HZ2:=Lib.hid hz2
 have hb1:Boxed W B1 3 (.int .i64 (k:Int)):=(hW.block B1 h1.lt).trans h1
 have hb2:Boxed W B2 3 (.int .i64 (N:Int)):=(hW.block B2 h2.lt).trans h2
 have HB1:=Lib.hid hb1;have HB2:=Lib.hid hb2;have HJ:=Lib.hid hJ;have HY:=Lib.hid hY;have H0:=Lib.hid h0;have HL:=Lib.hid hL
 have c1:=hb1.cell
 clear hi hz0 hz1 hz2 h1 h2 hb1 hb2 hJ hY h0 hW
 refine callsIn_of_wp Tryz.func158 rfl trivial ?_ rfl
 simp only [Tryz.ntmps158,List.size_toArray,List.length_cons,List.length_nil,Nat.reduceAdd,Nat.reduceSub,Array.replicate_succ,Array.replicate_zero,List.push_toArray,List.append_toArray,List.nil_append,List.cons_append]
 gi_wp2_with (gi_at_make;refine wpListIn_make_full _ rfl _ _ 26 rfl W.heap.size 3 i0 (.int .i64 0) 1 Tryz.underlying26 HI.out HZ0.out HZ1.out _ _ _ _ k rfl rfl rfl rfl ?c1 ?c2 ?c3 ?_)
 any_goals (first | (rw [HZ2.out];omega) | (unfold maxLen;omega) | exact Nat.le_refl _)
 intro w3 hown hgrow
 rw [made_ints] at hown
 have HS0:Hid (ItS J 0 W.heap.size W.heap.size k N B1 B2 w3 (initS k 0)):=by
  refine ⟨HJ.out 0 W w3 none H0.out hgrow (fun r e=>by cases e),?_,HB1.out.kept hgrow (by simp),HB2.out.kept hgrow (by simp),HB1.out.lt,HB2.out.lt⟩
  have e:natsV (initS k 0)=(List.replicate (k*1) (0:Int)).map (Value.int .i64):=by simp [natsV,initS]
  rw [e];simpa using hown
 clear hown hgrow c1
 gi_wp2_with fail
 gi_loopw [12] (fun t wr=>∃ i:Nat,i≤k∧t=.int .i64 i∧Hid (ItS J 0 W.heap.size W.heap.size k N B1 B2 wr (initS k i))) (fun t _=>k-(intOf t).toNat)
 case atStart=>exact ⟨0,by omega,rfl,HS0.out⟩
 case round =>
  obtain ⟨i,hik,rfl,HS⟩:=hrel
  by_cases hlt:i<k
  ·obtain ⟨c0,f0⟩:=HS.out.cell (initS_get hlt)
   have HN:=Lib.hid (HS.out.set HJ.out i i)
   rw [initS_set hlt] at HN
   gi_wp2_with fail
   go_roundw
   case rel=>exact ⟨i+1,by omega,by go_num,HN.out⟩
   case measure=>simp [intOf];omega
  ·obtain rfl:i=k:=by omega
   rw [initS_all] at HS
   clear HS0
   gi_wp2_with fail
   gi_loopw [6] (fun t wr=>∃ (q:Nat) (s:List Nat),L[q]?=some s∧Hid (ItS J q W.heap.size W.heap.size i N B1 B2 wr s)) (fun _ wr=>1000000000000000000-encW wr W.heap.size i)
   case atStart=>exact ⟨0,_,HL.out.head,HS.out⟩
   case round =>
    obtain ⟨q,s,hq,HT⟩:=hrel
    have HQ:=Lib.hid hq
    have HEN:=Lib.hid HT.out.enc
    have HBD:=Lib.hid (HL.out.bd s (List.mem_of_getElem? hq))
    have hsl:=HL.out.len s (List.mem_of_getElem? hq)
    have HSL:=Lib.hid hsl
    have e1:=HT.out.b1.cell;have e2:=HT.out.b2.cell
    obtain ⟨fn,tmps,assign,body,hyy,hR⟩:=HY.out q s _ wr hq HT.out.j HT.out.setAt
    have hle:(i:Int)≤(N:Int):=by omega
    clear hsl hq
    gi_wp2_with fail
    refine hR.mono ?_
    rintro e W3 ⟨rfl,hJ3,hk3⟩
    have HT3:=Lib.hid (HT.out.round hJ3 hk3)
    have d1:=HT3.out.b1.cell;have d2:=HT3.out.b2.cell
    clear hR hyy e1 e2 hJ3 hk3
    have p1:IntKind.i64.wrap ((i:Int)-1)=(i:Int)-1:=by rw [IntKind.wrap_i64];omega
    have p2:IntKind.i64.wrap ((N:Int)-(i:Int))=(N:Int)-(i:Int):=by rw [IntKind.wrap_i64];omega
    have HTW:Hid (∀ m,ItS J (q+1) W.heap.size W.heap.size i N B1 B2 (W3.drewN m) s):=fun m=>HT3.out.drawn HJ.out m
    gi_wp2_with fail
    gi_loopw [6] (fun t wr=>∃ (r:Nat) (x:Int),r≤i∧t=.int .i64 x∧x=(r:Int)-1∧Hid (ItS J (q+1) W.heap.size W.heap.size i N B1 B2 wr s)∧Hid (topI N i s i=topI N i s r)) (fun t _=>(intOf t+1).toNat)
    case atStart=>exact ⟨i,(i:Int)-1,Nat.le_refl _,rfl,rfl,HT3.out,rfl⟩
    case round =>
     obtain ⟨r,x,hri,rfl,hx,HT4,HTI⟩:=hrel
     clear d1 d2 p1
     have e1:=HT4.out.b1.cell;have e2:=HT4.out.b2.cell
     have HTD:Hid (∀ m,ItS J (q+1) W.heap.size W.heap.size i N B1 B2 (wr.drewN m) s):=fun m=>HT4.out.drawn HJ.out m
     cases r with
     | zero =>
      obtain rfl:x=-1:=by omega
      have HEND:Hid (q+1=L.length):=by
       have h1:nxtS N i s=none:=by
        unfold nxtS
        have:topI N i s i=none:=HTI.out
        rw [this]
       have h2:=HL.out.next q s HQ.out
       rw [h1] at h2
       have h3:=List.getElem?_eq_none_iff.1 h2.symm
       have h4:=(List.getElem?_eq_some_iff.1 HQ.out).1
       unfold Hid;omega
      clear hx
      gi_wp2_with fail
      gi_quiet (fail)
      gi_wp2_with fail
      refine bodyPost_ret (results_none rfl _ _ _) rfl ⟨⟨_,rfl⟩,?_⟩
      rw [← HEND.out]
      exact (HTD.out _).j
     | succ r =>
      obtain rfl:x=(r:Int):=by omega
      have hrs:r<s.length:=by rw [HSL.out];omega
      obtain ⟨v,hv⟩:∃ v,s[r]?=some v:=⟨_,List.getElem?_eq_getElem hrs⟩
      have hvN:=HL.out.lt s (List.mem_of_getElem? HQ.out) v (List.mem_of_getElem? hv)
      obtain ⟨g1,g2⟩:=HT4.out.cell hv
      have HV:=Lib.hid hv
      have hgd:s.getD r 0=v:=by rw [List.getD_eq_getElem?_getD,hv];rfl
      have HGD:=Lib.hid hgd
      have p3:IntKind.i64.wrap ((N:Int)-(i:Int)+(r:Int))=(N:Int)-(i:Int)+(r:Int):=by rw [IntKind.wrap_i64];omega
      have p4:(0:Int)≤(r:Int):=by omega
      have p5:(r:Int)<(i:Int):=by omega
      by_cases hvr:v+i=N+r
      ·have hq:((v:Int) == (N:Int)-(i:Int)+(r:Int))=true:=by rw [beq_iff_eq];omega
       have HT5:Hid (topI N i s i=topI N i s r):=by
        unfold Hid
        rw [HTI.out]
        show (if s.getD r 0+i=N+r then topI N i s r else some r)=_
        rw [hgd,if_pos hvr]
       have p6:IntKind.i64.wrap ((r:Int)-1)=(r:Int)-1:=by rw [IntKind.wrap_i64];omega
       clear hx hv hgd hvr hrs HTI
       gi_wp2_with fail
       gi_quiet (fail)
       gi_wp2_with fail
       go_roundw
       case rel=>exact ⟨r,(r:Int)-1,by omega,by go_num,rfl,HTD.out _,HT5.out⟩
       case measure=>simp [intOf] <;> omega
      ·have hq:((v:Int) == (N:Int)-(i:Int)+(r:Int))=false:=by rw [beq_eq_false_iff_ne];omega
       have HT5:Hid (topI N i s i=some r):=by
        unfold Hid
        rw [HTI.out]
        show (if s.getD r 0+i=N+r then topI N i s r else some r)=_
        rw [hgd,if_neg hvr]
       have p6:¬ (r:Int)<0:=by omega
       have p7:IntKind.i64.wrap ((v:Int)+1)=(v:Int)+1:=by rw [IntKind.wrap_i64];omega
       have p8:IntKind.i64.wrap ((r:Int)+1)=(r:Int)+1:=by rw [IntKind.wrap_i64];omega
       have HSET:Hid (∀ m,ItS J (q+1) W.heap.size W.heap.size i N B1 B2 ((wr.drewN m).setCell ⟨W.heap.size,r,none⟩ (.int .i64 ((v:Int)+1))) (midS s i r (r+1))):=fun m=>by
        have:=(HTD.out m).set HJ.out r (v+1)
        rw [← hgd,midS_start HSL.out (by omega),hgd] at this
        exact this
       clear hx hv hgd hvr hrs HTI
       gi_wp2_with fail
       gi_quiet (fail)
       gi_wp2_with fail
       gi_loopw [7] (fun t wr=>∃ j:Nat,r<j∧j≤i∧t=.int .i64 (j:Int)∧Hid (ItS J (q+1) W.heap.size W.heap.size i N B1 B2 wr (midS s i r j))) (fun t _=>i-(intOf t).toNat)
       case atStart=>exact ⟨r+1,by omega,by omega,by go_num,HSET.out _⟩
       case round =>
        obtain ⟨j,hrj,hji,rfl,HT6⟩:=hrel
        clear g1 g2 e1 e2
        have e1:=HT6.out.b1.cell
        by_cases hlt2:j<i
        ·obtain ⟨y,hy⟩:=midS_old (s:=s) HSL.out hrj hlt2
         have hz:=midS_get (s:=s) HSL.out hrj hji
         obtain ⟨g1,g2⟩:=HT6.out.cell hy
         obtain ⟨g3,g4⟩:=HT6.out.cell hz
         have hb1:=HL.out.lt s (List.mem_of_getElem? HQ.out) v (List.mem_of_getElem? HV.out)
         have HN:=Lib.hid (HT6.out.set HJ.out j (s.getD r 0+(j-r)+1))
         rw [midS_set HSL.out hrj hlt2] at HN
         obtain ⟨z,hzz⟩:∃ z,z=s.getD r 0+(j-r):=⟨_,rfl⟩
         rw [← hzz] at g3 HN
         have hzb:z<100:=by rw [hzz,HGD.out];omega
         have HN2:Hid (ItS J (q+1) W.heap.size W.heap.size i N B1 B2 (wr.setCell ⟨W.heap.size,j,none⟩ (.int .i64 ((z:Int)+1))) (midS s i r (j+1))):=HN.out
         have p9:IntKind.i64.wrap ((z:Int)+1)=(z:Int)+1:=by rw [IntKind.wrap_i64];omega
         have p10:IntKind.i64.wrap ((j:Int)-1)=((j-1:Nat):Int):=by rw [IntKind.wrap_i64];omega
         have p11:IntKind.i64.wrap ((j:Int)+1)=(j:Int)+1:=by rw [IntKind.wrap_i64];omega
         have p12:(0:Int)≤((j-1:Nat):Int):=by omega
         have p13:((j-1:Nat):Int)<(i:Int):=by omega
         have p14:(j:Int)<(i:Int):=by omega
         clear hy hz hzz HN
         gi_wp2_with fail
         go_roundw
         case rel=>exact ⟨j+1,by omega,by omega,by go_num,HN2.out⟩
         case measure=>simp [intOf] <;> omega
        ·obtain rfl:j=i:=by omega
         have hnx:=HL.out.next q s HQ.out
         rw [midS_end HSL.out HT5.out] at hnx
         have HNX:=Lib.hid hnx.symm
         have HUP:=Lib.hid (HL.out.up q s _ HQ.out hnx.symm)
         have HE6:=Lib.hid HT6.out.enc
         clear hnx
         gi_wp2_with fail
         go_roundw
         case rel=>exact ⟨q+1,_,HNX.out,HT6.out⟩
         case measure =>
          have a1:=HEN.out;have a2:=HE6.out;have a3:=HUP.out;have a4:=HBD.out
          omega
end Go.Proofs.YtjlkkofmojgipaaGreatDoor
