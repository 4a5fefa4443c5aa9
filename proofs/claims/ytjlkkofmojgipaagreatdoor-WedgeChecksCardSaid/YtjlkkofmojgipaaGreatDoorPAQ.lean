import Derived.Test.YtjlkkofmojgipaaGreatDoorPAN
import Derived.Test.YtjlkkofmojgipaaGreatDoorPAO
import Derived.Test.YtjlkkofmojgipaaGreatDoorPAP
namespace Go.Proofs.YtjlkkofmojgipaaGreatDoor
set_option linter.unusedVariables false
set_option linter.unusedSimpArgs false
open Go.RowKit Go.Shelf
set_option maxRecDepth 100000 in
set_option maxHeartbeats 1000000 in
theorem choose_any (n k:Nat) (w:World) (hn:n≤12) (hk:k≤n) :
  Calls Tryz.prog 107 #[.int .i64 (n:Int),.int .i64 (k:Int)] w fun e w'=>e=.returned (.int .i64 (chooseS n k:Int))∧w=w':=by
 have HB:Hid (∀ i,i≤k→chooseS n i≤1000):=fun i hi=>by
  obtain ⟨-,h1,h2⟩:=sets_ok (n:=n) (k:=i) hn (by omega)
  omega
 go_enter Tryz.func107,Tryz.ntmps107
 go_wp2
 go_loopw [8,5] (fun t v wr=>∃ i:Nat,i≤k∧t=.int .i64 (i:Int)∧v=.int .i64 (chooseS n i:Int)∧w=wr) (fun t _ _=>k-(intOf t).toNat)
 case atStart=>exact ⟨0,by omega,rfl,rfl,rfl⟩
 case round =>
  obtain ⟨i,hi,rfl,rfl,rfl⟩:=hrel
  by_cases hlt:i<k
  ·have hb:=HB.out i hi
   obtain ⟨c,hc⟩:∃ c,c=chooseS n i:=⟨_,rfl⟩
   have hnx:chooseS n (i+1)=c*(n-i) / (i+1):=by rw [hc];rfl
   rw [← hc] at hb ⊢
   have hmb:c*(n-i)≤1000*12:=Nat.mul_le_mul hb (by omega)
   have e1:(c:Int)*((n:Int)-(i:Int))=((c*(n-i):Nat):Int):=by
    rw [Int.natCast_mul,Int.ofNat_sub (show i≤n by omega)]
   have p1:IntKind.i64.wrap ((n:Int)-(i:Int))=(n:Int)-(i:Int):=by rw [IntKind.wrap_i64];omega
   have p2:IntKind.i64.wrap ((c:Int)*((n:Int)-(i:Int)))=((c*(n-i):Nat):Int):=by rw [e1,IntKind.wrap_i64];omega
   have p3:IntKind.i64.wrap ((i:Int)+1)=(i:Int)+1:=by rw [IntKind.wrap_i64];omega
   have p4:((((c*(n-i):Nat):Int)).tdiv ((i:Int)+1))=(chooseS n (i+1):Int):=by
    rw [hnx];rfl
   have hle:chooseS n (i+1)≤12000:=by
    rw [hnx]
    exact Nat.le_trans (Nat.div_le_self _ _) hmb
   have p5:wrap64 (chooseS n (i+1):Int)=(chooseS n (i+1):Int):=by unfold wrap64;omega
   have p6:((i:Int)+1 == 0)=false:=by rw [beq_eq_false_iff_ne];omega
   have p7:¬ ((i:Int)+1=0):=by omega
   clear hc hnx e1 hmb hle hb
   go_wp2
   go_roundw
   case rel=>refine ⟨i+1,by omega,by go_num,by rw [← Int.natCast_mul,p4];exact congrArg _ p5,by first | rfl | trivial⟩
   case measure=>simp [intOf];omega
  ·obtain rfl:i=k:=by omega
   go_wp2
   go_ret
   exact ⟨rfl,rfl⟩
theorem sets_any (n k:Int) (w:World) :
  Calls Tryz.prog 108 #[.int .i64 n,.int .i64 k] w fun e w'=>e=.returned (.func (.func 158) #[] #[.pointer (some ⟨w.heap.size+1,0,none⟩),.pointer (some ⟨w.heap.size,0,none⟩)])∧w'=(w.alloc (.cells #[.int .i64 n] 3)).alloc (.cells #[.int .i64 k] 3):=by
 go_enter Tryz.func108,Tryz.ntmps108
 go_wp2
 go_ret
 exact ⟨rfl,rfl⟩
def OwnR (B:Nat) (w:World) (v:Value) (l:List Int):Prop:=w.ownsRow B 3 1 v l.length (l.map (Value.int .i64 ·))
theorem OwnR.ext {B:Nat} {w w':World} {v:Value} {l:List Int} (h:OwnR B w v l) (he:Ext w w'):OwnR B w' v l:=owns_ext h he
theorem wp_append_int {o:Oper} {a:Act} {K:Act→World→Prop} {Q:Exit→Act→World→Prop} (w:World) (s x:Operand) (T2:TypeId) (ht2:Tryz.prog.underlying T2=some (TypeDesc.slice 3)) (ho:o.op=Op.call { callee:=Callee.builtin Builtin.append,args:=#[s,x],argTypes:=#[T2,T2] }) (B:Nat)
  (v:Value) (l:List Int) (y:Int) (u:Array Value) (T:TypeId) (hs:a.eval s=v) (hB:OwnR B w v l) (hx:a.eval x=.slice (some ⟨w.heap.size,0,none⟩) 1 1) (hu:u=#[.int .i64 y]) (hlen:l.length<1000000) (hbase:B≤w.heap.size)
  (h:∀ v' w',OwnR B w' v' (l++[y])→Below B w w'→K (a.put o.dst v') w'):o.wp Tryz.prog a (w.alloc (.cells u T)) K Q:=by
 subst hu
 obtain ⟨i0,hi,hz,hsize,hby⟩:=info_parts infoInt
 have hadd:∀ j,(⟨w.heap.size,0,none⟩:Addr).add j=⟨w.heap.size,j,none⟩:=by intro j;unfold Addr.add;split <;> simp_all
 have hE:Ext w (w.alloc (.cells #[.int .i64 y] T)):=Ext.alloc _ _
 refine wp_append_own_at (w.alloc (.cells #[.int .i64 y] T)) s x T2 ho B 3 i0 (.int .i64 0) 1 8 ht2 hi hz hsize hby rfl (by decide) v l.length (l.map (Value.int .i64 ·)) hs (hB.ext hE) ⟨w.heap.size,0,none⟩ 1 1 [.int .i64 y] hx rfl ?_ ?_ ?_ ?_ ?_ ?_
 ·intro j q hq
  rw [hadd,World.cell?_alloc_new]
  simpa using hq
 ·intro u hu
  rw [List.mem_singleton.1 hu];rfl
 ·unfold maxLen;omega
 ·omega
 ·simp;omega
 ·intro v' w' hown hgrow _ hat
  have hown2:OwnR B w' v' (l++[y]):=by
   unfold OwnR
   rw [List.length_append,List.map_append]
   exact hown
  have hgw:w.grownBy w' v.ownBlock:=grown_trans (hE.grown _) hgrow
  refine h v' w' hown2 ⟨hgw.os,hgw.tape,hgw.output,hgw.size,fun b hb=>hgw.block b (by omega) fun e=>?_⟩
  have:=(World.ownsRow.lt hB b e.symm).1
  omega
def strV (l:List Int):List Value:=l.map fun n=>Value.string (intB n)
def numC (_:World) (u:List Value) (n:Int):Prop:=u=[.string (intB n)]
theorem numC.mono:Mono numC:=fun _ _ _ _ _ h=>h
theorem numC.of_owns {w:World} {B:Nat} {v:Value} {L:List Int} (h:w.ownsRow B 53 1 v L.length (strV L)):ListAt 1 numC w v L:=by
 refine ⟨L.map fun n:Int=>[Value.string (intB n)],by simp,by simp,?_,?_⟩
 ·rw [flatten_one (fun n:Int=>Value.string (intB n))]
  exact SeqAt.of_owns h
 ·intro j u x hu hx
  rw [List.getElem?_map,hx] at hu
  exact (Option.some.inj hu).symm
theorem infoBigI:(Tryz.prog.info? 53).map (fun i=>(i.zero,i.size,i.bytes))=some (some (.string ⟨#[]⟩),1,16):=by kernel_rfl
theorem wp_append_str {o:Oper} {a:Act} {K:Act→World→Prop} {Q:Exit→Act→World→Prop} (F:World) (s x:Operand) (ho:o.op=Op.call { callee:=Callee.builtin Builtin.append,args:=#[s,x],argTypes:=#[29,29] }) (B:Nat)
  (vo:Value) (L:List Int) (y:Int) (u:Array Value) (T:TypeId) (hs:a.eval s=vo) (hB:F.ownsRow B 53 1 vo L.length (strV L)) (hx:a.eval x=.slice (some ⟨F.heap.size,0,none⟩) 1 1) (hu:u=#[.string (intB y)]) (hlen:L.length<8000000) (hbase:B≤F.heap.size)
  (h:∀ v' w',w'.ownsRow B 53 1 v' (L.length+1) (strV L++[.string (intB y)])→(F.alloc (.cells u T)).grownBy w' vo.ownBlock→K (a.put o.dst v') w'):o.wp Tryz.prog a (F.alloc (.cells u T)) K Q:=by
 subst hu
 obtain ⟨i0,hi,hz,hsize,hby⟩:=info_parts infoBigI
 have hadd:∀ j,(⟨F.heap.size,0,none⟩:Addr).add j=⟨F.heap.size,j,none⟩:=by intro j;unfold Addr.add;split <;> simp_all
 refine wp_append_own_at (F.alloc (.cells #[.string (intB y)] T)) s x _ ho B 53 i0 (.string ⟨#[]⟩) 1 16 Tryz.underlying29 hi hz hsize hby rfl (by decide) vo L.length (strV L) hs (hB.alloc _) ⟨F.heap.size,0,none⟩ 1 1 [.string (intB y)] hx rfl ?_ ?_ ?_ ?_ ?_ ?_
 ·intro j q hq
  rw [hadd,World.cell?_alloc_new]
  simpa using hq
 ·intro u hu
  rw [List.mem_singleton.1 hu];rfl
 ·unfold maxLen;omega
 ·omega
 ·simp;omega
 ·intro v' w' hown hgrow _ _
  exact h v' w' hown hgrow
theorem length_flatMap_const {α β:Type} (f:α→List β) (c:Nat) (h:∀ x,(f x).length=c):∀ l:List α,(l.flatMap f).length=l.length*c
 | []=>by simp
 | x::l=>by rw [List.flatMap_cons,List.length_append,h,length_flatMap_const f c h l,List.length_cons,Nat.succ_mul];omega
structure MinI (w W:World) (Bm Bk Bo:Nat) (vm:Value) (k:Nat) (L:List Int):Prop where
 bm:Boxed W Bm 23 vm
 bk:Boxed W Bk 3 (.int .i64 (k:Int))
 out:∃ vo,Boxed W Bo 29 vo∧W.ownsRow w.heap.size 53 1 vo L.length (strV L)
 old:Ext w W
 low:w.heap.size≤Bo∧w.heap.size≤Bm∧w.heap.size≤Bk
theorem boxed_grown {W W':World} {B:Nat} {t:TypeId} {v:Value} {row:Option Nat} (h:Boxed W B t v) (hg:W.grownBy W' row) (hr:row≠some B):Boxed W' B t v:=h.kept hg (fun e=>hr (by first | exact e.symm | exact e | simpa using e.symm))
theorem MinI.grown {w W W':World} {Bm Bk Bo:Nat} {vm:Value} {k:Nat} {L:List Int} (h:MinI w W Bm Bk Bo vm k L) {row:Option Nat} (hg:W.grownBy W' row) (h1:row≠some Bm) (h2:row≠some Bk) (h3:row≠some Bo) (h4:∀ r,row=some r→w.heap.size≤r∧∀ C fr,W.heap[r]?≠some (.cells C 53 fr)):MinI w W' Bm Bk Bo vm k L:=by
 obtain ⟨vo,ho,hown⟩:=h.out
 refine ⟨boxed_grown h.bm hg h1,boxed_grown h.bk hg h2,⟨vo,boxed_grown ho hg h3,hown.kept hg ?_⟩,?_,h.low⟩
 ·cases row with
  | none=>cases hv:vo.ownBlock <;> simp
  | some r =>
   refine .inr fun e=>?_
   rcases hown.2 with ⟨rfl,-⟩ | ⟨g,cap,cur,rfl,-,hgg,-⟩
   ·simp [Value.ownBlock] at e
   ·simp only [Value.ownBlock,Option.some.injEq] at e
    subst e
    exact (h4 g rfl).2 _ _ hgg
 ·refine Below.trans h.old ⟨hg.os,hg.tape,hg.output,hg.size,fun b hb=>hg.block b (Nat.lt_of_lt_of_le hb h.old.size) fun e=>?_⟩
  have:=(h4 b e.symm).1
  omega
theorem MinI.ext {w W W':World} {Bm Bk Bo:Nat} {vm:Value} {k:Nat} {L:List Int} (h:MinI w W Bm Bk Bo vm k L) (he:Ext W W'):MinI w W' Bm Bk Bo vm k L :=
 h.grown (he.grown none) (by simp) (by simp) (by simp) (fun r e=>by cases e)
structure OldM (n0 Bo:Nat) (A B:World):Prop where
 os:B.os=A.os
 tape:B.tape=A.tape
 output:B.output=A.output
 size:A.heap.size≤B.heap.size
 block:∀ b,b<A.heap.size→(b<n0∨(b≠Bo∧∀ C fr,A.heap[b]?≠some (.cells C 53 fr)))→B.heap[b]?=A.heap[b]?
theorem OldM.refl (n0 Bo:Nat) (A:World):OldM n0 Bo A A:=⟨rfl,rfl,rfl,Nat.le_refl _,fun _ _ _=>rfl⟩
theorem OldM.trans {n0 Bo:Nat} {A B C:World} (h:OldM n0 Bo A B) (g:OldM n0 Bo B C):OldM n0 Bo A C :=
 ⟨g.os.trans h.os,g.tape.trans h.tape,g.output.trans h.output,Nat.le_trans h.size g.size,fun b hb hc=>by
  have e:=h.block b hb hc
  refine (g.block b (Nat.lt_of_lt_of_le hb h.size) ?_).trans e
  rcases hc with hc | ⟨h1,h2⟩
  ·exact .inl hc
  ·exact .inr ⟨h1,by rw [e];exact h2⟩⟩
theorem OldM.grown {n0 Bo:Nat} {A B:World} {row:Option Nat} (hg:A.grownBy B row) (hr:∀ r,row=some r→r<A.heap.size→n0≤r∧(r=Bo∨∃ C fr,A.heap[r]?=some (.cells C 53 fr))):OldM n0 Bo A B :=
 ⟨hg.os,hg.tape,hg.output,hg.size,fun b hb hc=>hg.block b hb fun e=>by
  obtain ⟨h1,h2⟩:=hr b e.symm hb
  rcases hc with hc | ⟨k1,k2⟩
  ·omega
  ·rcases h2 with h2 | ⟨C,fr,h2⟩
   ·exact k1 h2
   ·exact k2 C fr h2⟩
theorem OldM.ext {n0 Bo:Nat} {A B:World} (h:Ext A B):OldM n0 Bo A B:=⟨h.os,h.tape,h.output,h.size,fun b hb _=>h.block b hb⟩
theorem OldM.later {n0 Bo:Nat} {A B C:World} (h:OldM n0 Bo A B) {row:Option Nat} (hg:B.grownBy C row) (hr:∀ r,row=some r→A.heap.size≤r):OldM n0 Bo A C :=
 ⟨hg.os.trans h.os,hg.tape.trans h.tape,hg.output.trans h.output,Nat.le_trans h.size hg.size,fun b hb hc=>(hg.block b (Nat.lt_of_lt_of_le hb h.size) (fun e=>by have:=hr b e.symm;omega)).trans (h.block b hb hc)⟩
theorem SetAt.cells {T:TypeId} {W:World} {g n:Nat} {s:List Nat} (h:SetAt T W (.slice (some ⟨g,0,none⟩) n n) s) {j x:Nat} (hx:s[j]?=some x):W.cell? ⟨g,j,none⟩=some (.int .i64 (x:Int)):=by
 obtain ⟨g',C,fr,hv,-,hc⟩:=h.at_
 simp only [Value.slice.injEq,Option.some.injEq,Addr.mk.injEq] at hv
 obtain ⟨⟨rfl,-,-⟩,-,-⟩:=hv
 exact hc j x hx
def pickC (xs:List Int) (C:List Nat) (q:Nat):List Int:=(C.take q).map fun y=>xs.getD y 0
theorem pickC_succ {xs:List Int} {C:List Nat} {q y:Nat} {z:Int} (hy:C[q]?=some y) (hz:xs[y]?=some z):pickC xs C (q+1)=pickC xs C q++[z]:=by
 unfold pickC
 rw [List.take_add_one,hy,List.map_append]
 simp [hz]
theorem pickC_len {xs:List Int} {C:List Nat} {q:Nat} (h:q≤C.length):(pickC xs C q).length=q:=by
 unfold pickC;simp;omega
theorem pickC_all {m:List (List Int)} {xs:List Int} {C:List Nat} {x k:Nat} (h:C.length=k) (hx:m.getD x []=xs):pickC xs C k=C.map fun j=>(m.getD x []).getD j 0:=by
 unfold pickC;rw [hx,← h,List.take_length]
theorem partI_bd {m:List (List Int)} {R C:List Nat} (h:∀ r∈m,∀ x∈r,-1000000000≤x∧x≤(1000000000:Int)):∀ r∈partI m R C,∀ x∈r,-1000000000≤x∧x≤(1000000000:Int):=by
 intro r hr x hx
 unfold partI at hr
 obtain ⟨i,-,rfl⟩:=List.mem_map.1 hr
 obtain ⟨j,-,rfl⟩:=List.mem_map.1 hx
 rw [List.getD_eq_getElem?_getD,List.getD_eq_getElem?_getD]
 cases hi:m[i]? with
 | none=>simp
 | some q =>
  cases hj:q[j]? with
  | none=>simp [hj]
  | some y=>simpa [hj] using h q (List.mem_of_getElem? hi) y (List.mem_of_getElem? hj)
theorem partI_row {m:List (List Int)} {R C:List Nat}:∀ r∈partI m R C,r.length=C.length:=by
 intro r hr
 unfold partI at hr
 obtain ⟨i,-,rfl⟩:=List.mem_map.1 hr
 simp
theorem partI_take {m:List (List Int)} {R C:List Nat} {p x:Nat} (h:R[p]?=some x):partI m (R.take (p+1)) C=partI m (R.take p) C++[C.map fun j=>(m.getD x []).getD j 0]:=by
 unfold partI
 rw [List.take_add_one,h,List.map_append]
 rfl
theorem OldM.keepT {n0 Bo:Nat} {A B:World} (h:OldM n0 Bo A B) (hB:∀ C fr,A.heap[Bo]?≠some (.cells C 3 fr)):KeepT 3 A B :=
 ⟨h.size,fun b C fr hb=>(h.block b (block_lt hb) (.inr ⟨fun e=>hB C fr (by rw [← e];exact hb),fun C' fr' e=>(by rw [hb] at e;simp at e)⟩)).trans hb⟩
theorem OldM.keepF {n0 Bo B0:Nat} {A B:World} (h:OldM n0 Bo A B) (hB:∀ o:Obj,A.heap[Bo]?=some o→o.isCells=true):KeepsFrom B0 A B :=
 ⟨h.size,fun b o _ hb ho=>(h.block b (block_lt hb) (.inr ⟨fun e=>(by rw [e] at hb;rw [hB o hb] at ho;cases ho),fun C' fr' e=>(by rw [hb] at e;cases e;simp [Obj.isCells] at ho)⟩)).trans hb⟩
theorem MinI.box {w W:World} {Bm Bk Bo:Nat} {vm:Value} {k:Nat} {L:List Int} (h:MinI w W Bm Bk Bo vm k L):(∀ C fr,W.heap[Bo]?≠some (.cells C 3 fr))∧∀ o:Obj,W.heap[Bo]?=some o→o.isCells=true:=by
 obtain ⟨vo,ho,-⟩:=h.out
 have ho2:W.heap[Bo]?=some (.cells #[vo] 29 (0,0)):=ho
 refine ⟨fun C fr e=>?_,fun o e=>?_⟩
 ·rw [ho2] at e;simp at e
 ·rw [ho2] at e;cases e;rfl
theorem MinI.push {w F w1:World} {Bm Bk Bo:Nat} {vm:Value} {k:Nat} {L:List Int} (h:MinI w F Bm Bk Bo vm k L) {vo v':Value} {tmp:Obj} (hbo:Boxed F Bo 29 vo) (hown:F.ownsRow w.heap.size 53 1 vo L.length (strV L)) (x:Int)
  (hown':w1.ownsRow w.heap.size 53 1 v' (L.length+1) (strV L++[.string (intB x)])) (hgrow:(F.alloc tmp).grownBy w1 vo.ownBlock) (h1:Bm≠Bo) (h2:Bk≠Bo) :
  MinI w (w1.setCell ⟨Bo,0,none⟩ v') Bm Bk Bo vm k (L++[x])∧OldM w.heap.size Bo F (w1.setCell ⟨Bo,0,none⟩ v')∧w1.cell? ⟨Bo,0,none⟩=some vo∧w1.frozen? ⟨Bo,0,none⟩=false:=by
 obtain ⟨hv1,hv2,hr2,hk2,hb2⟩:=hbo.appended (by decide) hown h.old.size h.low.1 hown' hgrow
 have b1:Boxed w1 Bm 23 vm:=(h.bm.alloc tmp).kept hgrow (h.bm.not_row (by decide) hown)
 have b2:Boxed w1 Bk 3 (.int .i64 (k:Int)):=(h.bk.alloc tmp).kept hgrow (h.bk.not_row (by decide) hown)
 refine ⟨⟨b1.other h1 v',b2.other h2 v',⟨v',hv2,?_⟩,Below.trans h.old hb2,h.low⟩,?_,hv1.cell,hv1.frozen⟩
 ·rw [List.length_append,show strV (L++[x])=strV L++[.string (intB x)] from by simp [strV]]
  exact hr2
 ·refine ((OldM.ext (Ext.alloc F tmp)).trans (OldM.grown hgrow fun r e hlt=>?_)).trans (OldM.grown (grown_setCell w1 Bo 0 v') fun r e hlt=>?_)
  ·rcases hown.2 with ⟨rfl,-⟩ | ⟨g,cap,cur,rfl,hg1,hgg,-⟩
   ·simp [Value.ownBlock] at e
   ·simp only [Value.ownBlock,Option.some.injEq] at e
    subst e
    exact ⟨hg1,.inr ⟨_,_,block_ext hgg (Ext.alloc F tmp)⟩⟩
  ·have e:=Option.some.inj e
   subst e
   exact ⟨h.low.1,.inl rfl⟩
end Go.Proofs.YtjlkkofmojgipaaGreatDoor
