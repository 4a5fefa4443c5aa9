import Derived.Test.YtjlkkofmojgipaaGreatDoorXAJ
import Derived.Test.YtjlkkofmojgipaaGreatDoorXAF
import Derived.Test.YtjlkkofmojgipaaGreatDoorXAG
import Derived.Test.YtjlkkofmojgipaaGreatDoorXAC
import Derived.BigQuiet
import Derived.Test.YtjlkkofmojgipaaGreatDoorXAE
set_option linter.unusedVariables false
set_option linter.unusedSimpArgs false
set_option maxRecDepth 1000000
set_option maxHeartbeats 8000000
namespace Go.Proofs.YtjlkkofmojgipaaGreatDoor
open Go.RowKit Go.Shelf Go.Proofs.Tryz
theorem E0_ (n k:Nat) (w:World) (hn:n<=12) (hk:k<=n) :
  Calls prog 107 #[.int .i64 (n:Int),.int .i64 (k:Int)] w fun e w'=>e=.returned (.int .i64 (eU n k:Int))/\w=w':=by
 have HB:Hid (∀ i,i<=k->eU n i<=1000):=fun i hi=>by
  obtain ⟨-,h1,h2⟩:=jY (n:=n) (k:=i) hn (by omega);omega
 go_enter func107,ntmps107
 go_wp2
 go_loopw [8,5] (fun t v wr=>∃ i:Nat,i<=k/\t=.int .i64 (i:Int)/\v=.int .i64 (eU n i:Int)/\w=wr) (fun t _ _=>k-(intOf t).toNat)
 case atStart=>exact ⟨0,by omega,rfl,rfl,rfl⟩
 case round =>
  obtain ⟨i,hi,rfl,rfl,rfl⟩:=hrel;by_cases hlt:i<k
  ·have hb:=HB i hi;obtain ⟨c,hc⟩:∃ c,c=eU n i:=⟨_,rfl⟩;have hnx:eU n (i+1)=c*(n-i) / (i+1):=by rw [hc];rfl
   rw [<- hc] at hb |-;have hmb:c*(n-i)<=1000*12:=Nat.mul_le_mul hb (by omega);have e1:(c:Int)*((n:Int)-(i:Int))=((c*(n-i):Nat):Int):=by
    rw [Int.natCast_mul,Int.ofNat_sub (show i<=n by omega)]
   have p1:IntKind.i64.wrap ((n:Int)-(i:Int))=(n:Int)-(i:Int):=by rw [IntKind.wrap_i64];omega
   have p2:IntKind.i64.wrap ((c:Int)*((n:Int)-(i:Int)))=((c*(n-i):Nat):Int):=by rw [e1,IntKind.wrap_i64];omega
   have p3:IntKind.i64.wrap ((i:Int)+1)=(i:Int)+1:=by rw [IntKind.wrap_i64];omega
   have p4:((((c*(n-i):Nat):Int)).tdiv ((i:Int)+1))=(eU n (i+1):Int):=by
    rw [hnx];rfl
   have hle:eU n (i+1)<=12000:=by
    rw [hnx];exact oI (Nat.div_le_self _ _) hmb
   have p5:wrap64 (eU n (i+1):Int)=(eU n (i+1):Int):=by unfold wrap64;omega
   have p6:((i:Int)+1 == 0)=false:=by rw [beq_eq_false_iff_ne];omega
   have p7:¬ ((i:Int)+1=0):=by omega
   clear hc hnx e1 hmb hle hb
   go_wp2
   go_roundw
   case rel=>refine ⟨i+1,by omega,by go_num,by rw [<- Int.natCast_mul,p4];exact congrArg _ p5,by first | rfl | trivial⟩
   case measure=>simp [intOf];omega
  ·obtain rfl:i=k:=by omega
   go_wp2
   go_ret;exact ⟨rfl,rfl⟩
theorem c0_ (n k:Int) (w:World) :
  Calls prog 108 #[.int .i64 n,.int .i64 k] w fun e w'=>e=.returned (.func (.func 158) #[] #[.pointer (some ⟨w.heap.size+1,0,none⟩),.pointer (some ⟨w.heap.size,0,none⟩)])/\w'=(w.alloc (.cells #[.int .i64 n] 3)).alloc (.cells #[.int .i64 k] 3):=by
 go_enter func108,ntmps108
 go_wp2
 go_ret;exact ⟨rfl,rfl⟩
def cS (B:Nat) (w:World) (v:Value) (l:List Int):Prop:=w.ownsRow B 3 1 v l.length (l.map (Value.int .i64 ·))
theorem cS.ext {B:Nat} {w w':World} {v:Value} {l:List Int} (h:cS B w v l) (he:aC w w'):cS B w' v l:=fi h he
theorem Q0_ {o:Oper} {a:Act} {K:Act->World->Prop} {Q:Exit->Act->World->Prop} (w:World) (s x:Operand) (T2:TypeId) (wE:prog.underlying T2=some (TypeDesc.slice 3)) (ho:o.op=Op.call { callee:=Callee.builtin Builtin.append,args:=#[s,x],argTypes:=#[T2,T2] }) (B:Nat)
  (v:Value) (l:List Int) (y:Int) (u:Array Value) (T:TypeId) (hs:a.eval s=v) (hB:cS B w v l) (hx:a.eval x=.slice (some ⟨w.heap.size,0,none⟩) 1 1) (hu:u=#[.int .i64 y]) (hlen:l.length<1000000) (ow:B<=w.heap.size)
  (h:∀ v' w',cS B w' v' (l++[y])->Below B w w'->K (a.put o.dst v') w'):o.wp prog a (w.alloc (.cells u T)) K Q:=by
 subst hu;obtain ⟨i0,hi,hz,pD,hby⟩:=info_parts kJ;have qE:∀ j,(⟨w.heap.size,0,none⟩:Addr).add j=⟨w.heap.size,j,none⟩:=by intro j;unfold Addr.add;split <;> simp_all
 have hE:aC w (w.alloc (.cells #[.int .i64 y] T)):=aC.alloc _ _;refine jc (w.alloc (.cells #[.int .i64 y] T)) s x T2 ho B 3 i0 (.int .i64 0) 1 8 wE hi hz pD hby rfl (by decide) v l.length (l.map (Value.int .i64 ·)) hs (hB.ext hE) ⟨w.heap.size,0,none⟩ 1 1 [.int .i64 y] hx rfl ?_ ?_ ?_ ?_ ?_ ?_
 ·intro j q hq;rw [qE,World.cell?_alloc_new];simpa using hq
 ·intro u hu;rw [List.mem_singleton.1 hu];rfl
 ·unfold maxLen;omega
 ·omega
 ·simp;omega
 ·intro v' w' hown oe _ rN;have rn:cS B w' v' (l++[y]):=by
   unfold cS;rw [oU,List.map_append];exact hown
  have qw:w.grownBy w' v.ownBlock:=iI (hE.grown _) oe;refine h v' w' rn ⟨qw.os,qw.tape,qw.output,qw.size,fun b hb=>qw.block b (by omega) fun e=>?_⟩;have:=(World.ownsRow.lt hB b e.symm).1;omega
def ja (l:List Int):List Value:=l.map fun n=>Value.string (aD n)
def numC (_:World) (u:List Value) (n:Int):Prop:=u=[.string (aD n)]
theorem numC.mono:jF numC:=fun _ _ _ _ _ h=>h
theorem numC.of_owns {w:World} {B:Nat} {v:Value} {L:List Int} (h:w.ownsRow B 53 1 v L.length (ja L)):aI 1 numC w v L:=by
 refine ⟨L.map fun n:Int=>[Value.string (aD n)],by simp,by simp,?_,?_⟩
 ·rw [eI (fun n:Int=>Value.string (aD n))];exact dn.of_owns h
 ·intro j u x hu hx;rw [oE,hx] at hu;exact (oL hu).symm
theorem ik:(prog.info? 53).map (fun i=>(i.zero,i.size,i.bytes))=some (some (.string ⟨#[]⟩),1,16):=by kernel_rfl
theorem v5_ {o:Oper} {a:Act} {K:Act->World->Prop} {Q:Exit->Act->World->Prop} (F:World) (s x:Operand) (ho:o.op=Op.call { callee:=Callee.builtin Builtin.append,args:=#[s,x],argTypes:=#[29,29] }) (B:Nat)
  (vo:Value) (L:List Int) (y:Int) (u:Array Value) (T:TypeId) (hs:a.eval s=vo) (hB:F.ownsRow B 53 1 vo L.length (ja L)) (hx:a.eval x=.slice (some ⟨F.heap.size,0,none⟩) 1 1) (hu:u=#[.string (aD y)]) (hlen:L.length<8000000) (ow:B<=F.heap.size)
  (h:∀ v' w',w'.ownsRow B 53 1 v' (L.length+1) (ja L++[.string (aD y)])->(F.alloc (.cells u T)).grownBy w' vo.ownBlock->K (a.put o.dst v') w'):o.wp prog a (F.alloc (.cells u T)) K Q:=by
 subst hu;obtain ⟨i0,hi,hz,pD,hby⟩:=info_parts ik;have qE:∀ j,(⟨F.heap.size,0,none⟩:Addr).add j=⟨F.heap.size,j,none⟩:=by intro j;unfold Addr.add;split <;> simp_all
 refine jc (F.alloc (.cells #[.string (aD y)] T)) s x _ ho B 53 i0 (.string ⟨#[]⟩) 1 16 underlying29 hi hz pD hby rfl (by decide) vo L.length (ja L) hs (hB.alloc _) ⟨F.heap.size,0,none⟩ 1 1 [.string (aD y)] hx rfl ?_ ?_ ?_ ?_ ?_ ?_
 ·intro j q hq;rw [qE,World.cell?_alloc_new];simpa using hq
 ·intro u hu;rw [List.mem_singleton.1 hu];rfl
 ·unfold maxLen;omega
 ·omega
 ·simp;omega
 ·intro v' w' hown oe _ _;exact h v' w' hown oe
theorem Z1_ {α β:Type} (f:α->List β) (c:Nat) (h:∀ x,(f x).length=c):∀ l:List α,(l.flatMap f).length=l.length*c
 | []=>by simp
 | x::l=>by rw [List.flatMap_cons,oU,h,Z1_ f c h l,List.length_cons,Nat.succ_mul];omega
structure ez (w W:World) (Bm Bk Bo:Nat) (vm:Value) (k:Nat) (L:List Int):Prop where
 bm:Boxed W Bm 23 vm
 bk:Boxed W Bk 3 (.int .i64 (k:Int))
 out:∃ vo,Boxed W Bo 29 vo/\W.ownsRow w.heap.size 53 1 vo L.length (ja L)
 old:aC w W
 low:w.heap.size<=Bo/\w.heap.size<=Bm/\w.heap.size<=Bk
theorem Y9_ {W W':World} {B:Nat} {t:TypeId} {v:Value} {row:Option Nat} (h:Boxed W B t v) (hg:W.grownBy W' row) (hr:row≠some B):Boxed W' B t v:=h.kept hg (fun e=>hr (by first | exact e.symm | exact e | simpa using e.symm))
theorem ez.grown {w W W':World} {Bm Bk Bo:Nat} {vm:Value} {k:Nat} {L:List Int} (h:ez w W Bm Bk Bo vm k L) {row:Option Nat} (hg:W.grownBy W' row) (h1:row≠some Bm) (h2:row≠some Bk) (h3:row≠some Bo) (h4:∀ r,row=some r->w.heap.size<=r/\∀ C fr,W.heap[r]?≠some (.cells C 53 fr)):ez w W' Bm Bk Bo vm k L:=by
 obtain ⟨vo,ho,hown⟩:=h.out;refine ⟨Y9_ h.bm hg h1,Y9_ h.bk hg h2,⟨vo,Y9_ ho hg h3,hown.kept hg ?_⟩,?_,h.low⟩
 ·cases row with
  | none=>cases hv:vo.ownBlock <;> simp
  | some r =>
   refine .inr fun e=>?_;rcases hown.2 with ⟨rfl,-⟩ | ⟨g,cap,cur,rfl,-,ru,-⟩
   ·simp [Value.ownBlock] at e
   ·simp only [Value.ownBlock,Option.some.injEq] at e;subst e;exact (h4 g rfl).2 _ _ ru
 ·refine Below.trans h.old ⟨hg.os,hg.tape,hg.output,hg.size,fun b hb=>hg.block b (oH hb h.old.size) fun e=>?_⟩;have:=(h4 b e.symm).1;omega
theorem ez.ext {w W W':World} {Bm Bk Bo:Nat} {vm:Value} {k:Nat} {L:List Int} (h:ez w W Bm Bk Bo vm k L) (he:aC W W'):ez w W' Bm Bk Bo vm k L :=
 h.grown (he.grown none) (by simp) (by simp) (by simp) (fun r e=>by cases e)
structure c_ (n0 Bo:Nat) (A B:World):Prop where
 os:B.os=A.os
 tape:B.tape=A.tape
 output:B.output=A.output
 size:A.heap.size<=B.heap.size
 block:∀ b,b<A.heap.size->(b<n0\/(b≠Bo/\∀ C fr,A.heap[b]?≠some (.cells C 53 fr)))->B.heap[b]?=A.heap[b]?
theorem c_.refl (n0 Bo:Nat) (A:World):c_ n0 Bo A A:=⟨rfl,rfl,rfl,oJ _,fun _ _ _=>rfl⟩
theorem c_.trans {n0 Bo:Nat} {A B C:World} (h:c_ n0 Bo A B) (g:c_ n0 Bo B C):c_ n0 Bo A C :=
 ⟨g.os.trans h.os,g.tape.trans h.tape,g.output.trans h.output,oI h.size g.size,fun b hb hc=>by
  have e:=h.block b hb hc;refine (g.block b (oH hb h.size) ?_).trans e;rcases hc with hc | ⟨h1,h2⟩
  ·exact .inl hc
  ·exact .inr ⟨h1,by rw [e];exact h2⟩⟩
theorem c_.grown {n0 Bo:Nat} {A B:World} {row:Option Nat} (hg:A.grownBy B row) (hr:∀ r,row=some r->r<A.heap.size->n0<=r/\(r=Bo\/∃ C fr,A.heap[r]?=some (.cells C 53 fr))):c_ n0 Bo A B :=
 ⟨hg.os,hg.tape,hg.output,hg.size,fun b hb hc=>hg.block b hb fun e=>by
  obtain ⟨h1,h2⟩:=hr b e.symm hb;rcases hc with hc | ⟨k1,k2⟩
  ·omega
  ·rcases h2 with h2 | ⟨C,fr,h2⟩
   ·exact k1 h2
   ·exact k2 C fr h2⟩
theorem c_.ext {n0 Bo:Nat} {A B:World} (h:aC A B):c_ n0 Bo A B:=⟨h.os,h.tape,h.output,h.size,fun b hb _=>h.block b hb⟩
theorem c_.later {n0 Bo:Nat} {A B C:World} (h:c_ n0 Bo A B) {row:Option Nat} (hg:B.grownBy C row) (hr:∀ r,row=some r->A.heap.size<=r):c_ n0 Bo A C :=
 ⟨hg.os.trans h.os,hg.tape.trans h.tape,hg.output.trans h.output,oI h.size hg.size,fun b hb hc=>(hg.block b (oH hb h.size) (fun e=>by have:=hr b e.symm;omega)).trans (h.block b hb hc)⟩
theorem jg.cells {T:TypeId} {W:World} {g n:Nat} {s:List Nat} (h:jg T W (.slice (some ⟨g,0,none⟩) n n) s) {j x:Nat} (hx:s[j]?=some x):W.cell? ⟨g,j,none⟩=some (.int .i64 (x:Int)):=by
 obtain ⟨g',C,fr,hv,-,hc⟩:=h.at_;simp only [Value.slice.injEq,Option.some.injEq,Addr.mk.injEq] at hv;obtain ⟨⟨rfl,-,-⟩,-,-⟩:=hv;exact hc j x hx
def fV (xs:List Int) (C:List Nat) (q:Nat):List Int:=(C.take q).map fun y=>xs.getD y 0
theorem Z0u {xs:List Int} {C:List Nat} {q y:Nat} {z:Int} (hy:C[q]?=some y) (hz:xs[y]?=some z):fV xs C (q+1)=fV xs C q++[z]:=by
 unfold fV;rw [oG,hy,List.map_append];simp [hz]
theorem q9_ {xs:List Int} {C:List Nat} {q:Nat} (h:q<=C.length):(fV xs C q).length=q:=by
 unfold fV;simp;omega
theorem Z2m {m:List (List Int)} {xs:List Int} {C:List Nat} {x k:Nat} (h:C.length=k) (hx:m.getD x []=xs):fV xs C k=C.map fun j=>(m.getD x []).getD j 0:=by
 unfold fV;rw [hx,<- h,List.take_length]
theorem Z4e {m:List (List Int)} {R C:List Nat} (h:∀ r∈m,∀ x∈r,-1000000000<=x/\x<=(1000000000:Int)):∀ r∈bM m R C,∀ x∈r,-1000000000<=x/\x<=(1000000000:Int):=by
 intro r hr x hx;unfold bM at hr;obtain ⟨i,-,rfl⟩:=List.mem_map.1 hr;obtain ⟨j,-,rfl⟩:=List.mem_map.1 hx;rw [oC,oC];cases hi:m[i]? with
 | none=>simp
 | some q =>
  cases hj:q[j]? with
  | none=>simp [hj]
  | some y=>simpa [hj] using h q (oD hi) y (oD hj)
theorem q8_ {m:List (List Int)} {R C:List Nat}:∀ r∈bM m R C,r.length=C.length:=by
 intro r hr;unfold bM at hr;obtain ⟨i,-,rfl⟩:=List.mem_map.1 hr;simp
theorem Z0t {m:List (List Int)} {R C:List Nat} {p x:Nat} (h:R[p]?=some x):bM m (R.take (p+1)) C=bM m (R.take p) C++[C.map fun j=>(m.getD x []).getD j 0]:=by
 unfold bM;rw [oG,h,List.map_append];rfl
theorem c_.keepT {n0 Bo:Nat} {A B:World} (h:c_ n0 Bo A B) (hB:∀ C fr,A.heap[Bo]?≠some (.cells C 3 fr)):fZ 3 A B :=
 ⟨h.size,fun b C fr hb=>(h.block b (dS hb) (.inr ⟨fun e=>hB C fr (by rw [<- e];exact hb),fun C' fr' e=>(by rw [hb] at e;simp at e)⟩)).trans hb⟩
theorem c_.keepF {n0 Bo B0:Nat} {A B:World} (h:c_ n0 Bo A B) (hB:∀ o:Obj,A.heap[Bo]?=some o->o.isCells=true):KeepsFrom B0 A B :=
 ⟨h.size,fun b o _ hb ho=>(h.block b (dS hb) (.inr ⟨fun e=>(by rw [e] at hb;rw [hB o hb] at ho;cases ho),fun C' fr' e=>(by rw [hb] at e;cases e;simp [Obj.isCells] at ho)⟩)).trans hb⟩
theorem ez.box {w W:World} {Bm Bk Bo:Nat} {vm:Value} {k:Nat} {L:List Int} (h:ez w W Bm Bk Bo vm k L):(∀ C fr,W.heap[Bo]?≠some (.cells C 3 fr))/\∀ o:Obj,W.heap[Bo]?=some o->o.isCells=true:=by
 obtain ⟨vo,ho,-⟩:=h.out;have ho2:W.heap[Bo]?=some (.cells #[vo] 29 (0,0)):=ho;refine ⟨fun C fr e=>?_,fun o e=>?_⟩
 ·rw [ho2] at e;simp at e
 ·rw [ho2] at e;cases e;rfl
theorem ez.push {w F w1:World} {Bm Bk Bo:Nat} {vm:Value} {k:Nat} {L:List Int} (h:ez w F Bm Bk Bo vm k L) {vo v':Value} {tmp:Obj} (rT:Boxed F Bo 29 vo) (hown:F.ownsRow w.heap.size 53 1 vo L.length (ja L)) (x:Int)
  (pw:w1.ownsRow w.heap.size 53 1 v' (L.length+1) (ja L++[.string (aD x)])) (oe:(F.alloc tmp).grownBy w1 vo.ownBlock) (h1:Bm≠Bo) (h2:Bk≠Bo) :
  ez w (w1.setCell ⟨Bo,0,none⟩ v') Bm Bk Bo vm k (L++[x])/\c_ w.heap.size Bo F (w1.setCell ⟨Bo,0,none⟩ v')/\w1.cell? ⟨Bo,0,none⟩=some vo/\w1.frozen? ⟨Bo,0,none⟩=false:=by
 obtain ⟨hv1,pt,ph,hk2,hb2⟩:=rT.appended (by decide) hown h.old.size h.low.1 pw oe;have b1:Boxed w1 Bm 23 vm:=(h.bm.alloc tmp).kept oe (h.bm.not_row (by decide) hown);have b2:Boxed w1 Bk 3 (.int .i64 (k:Int)):=(h.bk.alloc tmp).kept oe (h.bk.not_row (by decide) hown);refine ⟨⟨b1.other h1 v',b2.other h2 v',⟨v',pt,?_⟩,Below.trans h.old hb2,h.low⟩,?_,hv1.cell,hv1.frozen⟩
 ·rw [oU,show ja (L++[x])=ja L++[.string (aD x)] from by simp [ja]];exact ph
 ·refine ((c_.ext (aC.alloc F tmp)).trans (c_.grown oe fun r e hlt=>?_)).trans (c_.grown (eJ w1 Bo 0 v') fun r e hlt=>?_)
  ·rcases hown.2 with ⟨rfl,-⟩ | ⟨g,cap,cur,rfl,hg1,ru,-⟩
   ·simp [Value.ownBlock] at e
   ·simp only [Value.ownBlock,Option.some.injEq] at e;subst e;exact ⟨hg1,.inr ⟨_,_,aO ru (aC.alloc F tmp)⟩⟩
  ·have e:=oL e;subst e;exact ⟨h.low.1,.inl rfl⟩
attribute [local go_sem] Oper.semAt_some
def ea (xss:List (List Int)) (k:Nat) (R C:List Nat):Int:=(aj (bJ (bM xss R C)) k).det.num
def dQ (xss:List (List Int)) (k:Nat):List Int:=(bH xss.length k).flatMap fun R=>(bH (bY xss) k).map fun C=>ea xss k R C
def eL (xss:List (List Int)) (k i:Nat):List Int:=((bH xss.length k).take i).flatMap fun R=>(bH (bY xss) k).map fun C=>ea xss k R C
def fT (xss:List (List Int)) (k:Nat) (R:List Nat) (j:Nat):List Int:=((bH (bY xss) k).take j).map fun C=>ea xss k R C
theorem Z0l {xss:List (List Int)} {k i:Nat} {R:List Nat} (h:(bH xss.length k)[i]?=some R):eL xss k (i+1)=eL xss k i++fT xss k R (bH (bY xss) k).length:=by
 unfold eL fT;rw [oG,h,List.take_length,List.flatMap_append];simp
theorem k3_ {xss:List (List Int)} {k j:Nat} {R C:List Nat} (h:(bH (bY xss) k)[j]?=some C):fT xss k R (j+1)=fT xss k R j++[ea xss k R C]:=by
 unfold fT;rw [oG,h,List.map_append];simp
theorem Z28 (xss:List (List Int)) (k i j:Nat) (R:List Nat) (h1:(bH xss.length k).length<=1000) (h2:(bH (bY xss) k).length<=1000):(eL xss k i++fT xss k R j).length<8000000:=by
 unfold eL fT;rw [oU,Z1_ _ (bH (bY xss) k).length (fun R=>by simp),List.length_map,oF,oF];have:=Nat.mul_le_mul (show min i (bH xss.length k).length<=1000 by omega) h2;omega
theorem Z27 (xss:List (List Int)) (k:Nat):eL xss k (bH xss.length k).length=dQ xss k:=by
 unfold eL dQ;rw [List.take_length]
theorem Z0m (xss:List (List Int)) (k:Nat) (v:Value) (w:World) (h:bQ w v xss) (hE:bw xss=0) (rq:k<=xss.length) (hk2:k<=bY xss) (vj:eU xss.length k*eU (bY xss) k<=1000)
  (hok:∀ R∈bH xss.length k,∀ C∈bH (bY xss) k,∀ c,c<k->h_ 2500 (aj (bJ (bM xss R C)) c).m/\RS 9000 (aj (bJ (bM xss R C)) c).det) (ht:af w) :
  Calls prog 54 #[v,.int .i64 (k:Int)] w fun e w'=>∃ r,e=.returned (.tuple #[r,.int .i64 0])/\aI 1 numC w' r (dQ xss k)/\aC w w':=by
 obtain ⟨hl,qN⟩:=ke hE;have hcl:bY xss<=12:=by
  unfold bY;cases xss with
  | nil=>simp
  | cons r l=>exact (qN r (by simp)).2.1
 have HCH:Hid (∀ W,aC w W->oW 53 #[v] W (.int .i64 0)):=fun W hW=>by
  have:=W6_ xss v W (h.ext hW);rw [hE] at this;exact this
 have HCO:Hid (∀ W,aC w W->Calls prog 106 #[v] W fun e w'=>e=.returned (.int .i64 (bY xss:Int))/\w'=W):=fun W hW=>(m3_ xss v W (h.ext hW)).mono fun _ _ ⟨a,b⟩=>⟨a,b.symm⟩
 have HC1:Hid (∀ W,Calls prog 107 #[.int .i64 (xss.length:Int),.int .i64 (k:Int)] W fun e w'=>e=.returned (.int .i64 (eU xss.length k:Int))/\w'=W):=fun W=>(E0_ _ _ W hl rq).mono fun _ _ ⟨a,b⟩=>⟨a,b.symm⟩
 have rV:Hid (∀ W,Calls prog 107 #[.int .i64 (bY xss:Int),.int .i64 (k:Int)] W fun e w'=>e=.returned (.int .i64 (eU (bY xss) k:Int))/\w'=W):=fun W=>(E0_ _ _ W hcl hk2).mono fun _ _ ⟨a,b⟩=>⟨a,b.symm⟩
 have HROWS:=n8 h;have HT:=n8 ht;have HOK:=n8 hok;have HRR:=n8 qN;obtain ⟨a,c,rfl,h1,h2,-,pd⟩:=bT.open h;have HCELL:=n8 pd;obtain ⟨n,hn⟩:∃ n,n=xss.length:=⟨_,rfl⟩;obtain ⟨m,hm⟩:∃ m,m=bY xss:=⟨_,rfl⟩;rw [<- hn] at HC1 HCO HCH h1 rq vj hl HROWS |-;rw [<- hm] at rV HCO hk2 vj hcl;obtain ⟨c1,pJ⟩:∃ c,c=eU n k:=⟨_,rfl⟩;obtain ⟨c2,pT⟩:∃ c,c=eU m k:=⟨_,rfl⟩;rw [<- pJ] at HC1 vj;rw [<- pT] at rV vj;have HCC:=n8 (And.intro pJ pT);have HNM:=n8 (And.intro hn hm);unfold maxLen at h2;have q0:¬ (k:Int)<0:=by omega
 have q1:¬ (n:Int)<(k:Int):=by omega
 have q2:¬ (m:Int)<(k:Int):=by omega
 have hcm:((c1*c2:Nat):Int)=(c1:Int)*(c2:Int):=Int.natCast_mul _ _;have q3:IntKind.i64.wrap ((c1:Int)*(c2:Int))=(c1:Int)*(c2:Int):=by rw [<- hcm,IntKind.wrap_i64];omega
 have q4:¬ (1000:Int)<(c1:Int)*(c2:Int):=by rw [<- hcm];omega
 have z0:=oR q0;have z1:=oR q1;have z2:=oR q2;have z4:=oR q4;have z5:decide (n<k)=false:=by rw [decide_eq_false_iff_not];omega
 have z6:decide (m<k)=false:=by rw [decide_eq_false_iff_not];omega
 clear h hE hok ht qN pd hn hm pJ pT hcm;refine (callsIn_wide (n:=9)).1 ?_;refine callsIn_of_wp_marks func54 rfl trivial ?_ rfl;simp only [ntmps54,List.size_toArray,List.length_cons,List.length_nil,Nat.reduceAdd,Nat.reduceSub,Array.replicate_succ,Array.replicate_zero,List.push_toArray,List.append_toArray,List.nil_append,List.cons_append];obtain ⟨W2,vO⟩:∃ W2,(w.alloc (.cells #[.slice a n c] 23)).alloc (.cells #[.int .i64 (k:Int)] 3)=W2:=⟨_,rfl⟩;have DK:aC w W2:=by rw [<- vO];exact (aC.alloc _ _).trans (aC.alloc _ _)
 have hs2:W2.heap.size=w.heap.size+2:=by rw [<- vO];simp
 have hb1:Boxed W2 w.heap.size 23 (.slice a n c):=by
  rw [<- vO];exact Boxed.alloc (Boxed.new w _ _) _
 have hb2:Boxed W2 (w.heap.size+1) 3 (.int .i64 (k:Int)):=by
  rw [<- vO];have:=Boxed.new (w.alloc (.cells #[.slice a n c] 23)) 3 (.int .i64 (k:Int));simpa using this
 have HX2:=n8 DK;have HB1:=n8 hb1;have HB2:=n8 hb2;have HS2:=n8 hs2;have d1:=hb1.cell;have d2:=hb2.cell;clear DK hs2 hb1 hb2;refine wpIn_wide.2 ?_;go_wp2_with fail;refine (HCH _ HX2).mono ?_;rintro e w1 ⟨rfl,hE1⟩;have HX1:=n8 (aC.trans HX2 hE1);have e1:=hE1.cell d1;have e2:=hE1.cell d2;have yy:Hid (Boxed w1 w.heap.size 23 (.slice a n c)/\Boxed w1 (w.heap.size+1) 3 (.int .i64 (k:Int))/\w.heap.size+2<=w1.heap.size):=⟨aO HB1 hE1,aO HB2 hE1,by have:=hE1.size;have:=HS2.out;omega⟩;clear hE1 d1 d2 vO HCH;go_wp2_with fail
 go_quiet ((go_at_call 106;exact Calls.quiet_of_same (HCO _ (aC.draws HX1 _))))
 go_wp2_with fail;obtain ⟨wq,qM⟩:∃ wq,wq=w1.drewN nq:=⟨_,rfl⟩;rw [<- qM];have Ap:aC w1 wq:=by rw [qM];exact aC.drewN _ _
 have HXQ:=n8 (aC.trans HX1 Ap);have b1:=Ap.cell e1;have b2:=Ap.cell e2;have xv:Hid (Boxed wq w.heap.size 23 (.slice a n c)/\Boxed wq (w.heap.size+1) 3 (.int .i64 (k:Int))/\w.heap.size+2<=wq.heap.size):=⟨aO yy.1 Ap,aO yy.2.1 Ap,by have:=Ap.size;have:=yy.2.2;omega⟩;clear qM Ap e1 e2 yy HX1 HX2 HB1 HB2 HS2
 go_quiet ((first | (go_at_call 106;exact Calls.quiet_of_same (HCO _ (aC.draws HXQ _))) | (go_at_call 107;with_reducible exact Calls.quiet_of_same (HC1.out _)) | (go_at_call 107;with_reducible exact Calls.quiet_of_same (rV.out _))))
 obtain ⟨wz,CT⟩:∃ wz,wz=wq.drewN nq:=⟨_,rfl⟩;rw [<- CT];have zd:aC wq wz:=by rw [CT];exact aC.drewN _ _
 obtain ⟨W3,xU⟩:∃ W3,wz.alloc (.cells #[.slice none 0 0] 29)=W3:=⟨_,rfl⟩;have oh:aC wz W3:=by rw [<- xU];exact aC.alloc _ _
 have HM3:Hid (ez w W3 w.heap.size (w.heap.size+1) wz.heap.size (.slice a n c) k (eL xss k 0)):=by
  have hs:=zd.size;have hz:=xv.2.2;refine ⟨aO xv.1 (zd.trans oh),aO xv.2.1 (zd.trans oh),⟨_,?_,World.ownsRow_nil _ _ _ _⟩,HXQ.trans (zd.trans oh),by omega,oJ _,by omega⟩;rw [<- xU];exact Boxed.new _ _ _
 have b1:=oh.cell (zd.cell b1);have b2:=oh.cell (zd.cell b2);have HS3:Hid (W3.heap.size=wz.heap.size+1/\w.heap.size+2<=wz.heap.size):=⟨by rw [<- xU];simp,by have:=zd.size;have:=xv.2.2;omega⟩;clear CT zd oh xv HXQ;go_wp2_with fail;refine (c0_ _ _ _).mono ?_;rintro e w4 ⟨rfl,hw4⟩;have JV:aC W3 w4:=by rw [hw4];exact (aC.alloc _ _).trans (aC.alloc _ _)
 have HM4:=n8 (HM3.ext JV);have BH:Hid (Boxed w4 (W3.heap.size+1) 3 (.int .i64 (k:Int))/\Boxed w4 W3.heap.size 3 (.int .i64 (n:Int))/\w4.heap.size=W3.heap.size+2):=by
  rw [hw4];refine ⟨?_,Boxed.alloc (Boxed.new _ _ _) _,by simp⟩;have:=Boxed.new (W3.alloc (.cells #[.int .i64 (n:Int)] 3)) 3 (.int .i64 (k:Int));simpa using this
 clear b1 b2 hw4 JV xU;go_wp2_with fail;refine (wpIn_wide (n:=9)).1 ?_;have HSI:=n8 (jY (n:=n) (k:=k) hl rq);have HSJ:=n8 (jY (n:=m) (k:=k) hcl hk2);refine F2_ (T:=3) (L:=bH n k) (w0:=w4) rfl (by omega) (gf:=158) (lb:=#[.pointer (some ⟨W3.heap.size+1,0,none⟩),.pointer (some ⟨W3.heap.size,0,none⟩)]) rfl trivial (enters_of func158 (by kernel_rfl) rfl)
  (d9_ (9-1) (by omega) n k rq hl (bH n k) HSI.1 _ _ w4 BH.1 BH.2.1) (Below.refl _ _) rfl
  (fun i W=>ez w W w.heap.size (w.heap.size+1) wz.heap.size (.slice a n c) k (eL xss k i)) ?ab HM4 ?rounds ?done
 case ab =>
  rintro i W W' row hI hg hr;have h3:=HS3.out;have h4:=BH.2.2;refine hI.grown hg (fun e=>?_) (fun e=>?_) (fun e=>?_) (fun r e=>?_)
  ·have:=(hr _ e).1;omega
  ·have:=(hr _ e).1;omega
  ·have:=(hr _ e).1;omega
  ·obtain ⟨h5,o,ho,h6⟩:=hr r e;refine ⟨by omega,fun C fr hc=>?_⟩;rw [hc] at ho;cases ho;rcases h6 with h6 | ⟨C',fr',h6⟩
   ·simp [Obj.isCells] at h6
   ·simp at h6
 case done =>
  intro W hI hD;have qO:eL xss k (bH n k).length=dQ xss k:=by rw [HNM.out.1];exact Z27 xss k
  rw [qO] at hI;obtain ⟨vo,rT,hown⟩:=hI.out;have c0:=rT.cell;have HI:=n8 hI;have HD:=n8 hD;have HOWN:=n8 hown;have hw4:w.heap.size<=w4.heap.size:=HM4.old.size;clear hI hD hown rT qO;go_wp2_with fail;refine ⟨by simp,.inl ⟨_,_,rfl,run_takeDeferred HD,?_⟩⟩;refine ⟨_,results_tmp2 rfl _ _ _,vo,rfl,?_,?_⟩
  ·exact numC.of_owns (ownsRow_putObj HOWN _ HD rfl)
  ·exact Below.trans HI.old ((belowK_b (w:=w) (n₀:=w.heap.size) (oJ _) W w4.heap.size _ _ hw4 HD rfl rfl))
 case rounds =>
  rintro i R vs W hR hI hV ⟨r0,x6⟩;have hRk:=HSI.1.len R (oD hR);have hRn:=HSI.1.lt R (oD hR);obtain ⟨gR,CR,frR,wX,JF,JL⟩:=hV.at_;rw [hRk] at wX;subst wX;have HV:=n8 hV;have HI:=n8 hI;have HR:=n8 hR;have HL0:=n8 x6;have HRK:=n8 hRk;have HRN:=n8 hRn;have HGR:=n8 JF;have HCR:=n8 JL;obtain ⟨W5,Ag⟩:∃ W5,W.alloc (.cells #[.slice none 0 0] 26)=W5:=⟨_,rfl⟩;have hb5:Boxed W5 W.heap.size 26 (.slice none 0 0):=by rw [<- Ag];exact Boxed.new _ _ _
  have HE5:Hid (aC W W5):=by rw [<- Ag];exact aC.alloc _ _
  have HB5:=n8 hb5;have c0:=hb5.cell;have f0:=hb5.frozen;have HE6:Hid (aC W (W5.setCell ⟨W.heap.size,0,none⟩ (.slice (some ⟨gR,0,none⟩) k k))):=((HE5.grownS (·=W.heap.size)).store (S:=(·=W.heap.size)) rfl 0 _).belowE (fun b e=>by omega) (oJ _);have HB6:Hid (Boxed (W5.setCell ⟨W.heap.size,0,none⟩ (.slice (some ⟨gR,0,none⟩) k k)) W.heap.size 26 (.slice (some ⟨gR,0,none⟩) k k)):=fA hb5 0 _;clear hV hI hR x6 hRk hRn JF JL hb5
  gi_wp2_with fail
  obtain ⟨W6,JX⟩:∃ W6,W6=W5.setCell ⟨W.heap.size,0,none⟩ (.slice (some ⟨gR,0,none⟩) k k):=⟨_,rfl⟩;rw [<- JX] at HE6 HB6 |-;have hbx:=HI.box;refine ⟨(c_.ext (n0:=w.heap.size) (Bo:=wz.heap.size) HE6).keepF hbx.2,(c_.ext (n0:=w.heap.size) (Bo:=wz.heap.size) HE6).keepT hbx.1,?_⟩;rintro Wb qe ⟨r1,qU⟩ ⟨r2,ph⟩ Ft;have hlw:=(Array.getElem?_eq_some_iff.1 HL0).1;have zo:Hid (ez w Wb w.heap.size (w.heap.size+1) wz.heap.size (.slice a n c) k (eL xss k i)):=by
   have h3:=HS3.out;have h4:=BH.2.2;refine (HI.ext HE6).grown qe (fun e=>?_) (fun e=>?_) (fun e=>?_) (fun r e=>?_)
   ·have e:=oL e;omega
   ·have e:=oL e;omega
   ·have e:=oL e;omega
   ·cases e;exact ⟨by omega,fun C fr hc=>by rw [qU] at hc;simp at hc⟩
  have HBB:Hid (Boxed Wb W.heap.size 26 (.slice (some ⟨gR,0,none⟩) k k)):=Y9_ HB6 qe (fun e=>by have e:=oL e;omega);have Df:Hid (jg 3 Wb (.slice (some ⟨gR,0,none⟩) k k) R):=HV.keep (((c_.ext (n0:=w.heap.size) (Bo:=wz.heap.size) HE6).keepT hbx.1).trans Ft);have HL2:=n8 ph;have g1:=zo.bm.cell;have g2:=zo.bk.cell;have HXB:=n8 zo.old;clear c0 f0 qe Ft qU ph hbx JX Ag HE6 HB6 HB5 HE5
  gi_wp2_with fail
  refine R0_ (fun u=>u=Wb.drew) 3 (by kernel_rfl) (by kernel_rfl) (by rintro ⟨_,_,h⟩;exact absurd (show Exit.outgrown=Exit.normal from h.1) (by simp)) rfl (fun oX=>?_);refine tL (v:=?_) 0 rfl (Or.inl ⟨by rfl,?_⟩) ?_;rotate_left
  ·((intro w' oz);(subst oz);(try go_simp);(try with_reducible rfl))
  (try simp only [Act.put,aK,aL,aM])
  refine tL (v:=?_) 2 rfl (Or.inl ⟨by rfl,?_⟩) ?_;rotate_left
  ·((intro w' oz);(subst oz);(try go_simp);(try with_reducible rfl))
  (try simp only [Act.put,aK,aL,aM])
  refine dO 1 (by kernel_rfl) rfl (fun K hK=>?_);go_simp
  (go_at_call 106;refine (HCO _ (aC.trans HXB (aC.drew _))).mono ?_)
  rintro e w5 ⟨rfl,rfl⟩;go_wp2_with fail;refine hK _ _ (rfl) (fun oX=>?_);clear hK K
  (try simp only [Act.put,aK,aL,aM])
  refine fL 3 (by kernel_rfl) (by kernel_rfl) (by kernel_rfl) rfl (fun K hK=>?_);go_simp
  (go_at_call 108;refine (c0_ _ _ _).mono ?_)
  rintro e w5 ⟨rfl,yP⟩;have JU:aC Wb w5:=by rw [yP];exact (aC.drew _).trans ((aC.alloc _ _).trans (aC.alloc _ _))
  have HK5:Hid (Boxed w5 (Wb.heap.size+1) 3 (.int .i64 (k:Int))/\Boxed w5 Wb.heap.size 3 (.int .i64 (m:Int))/\w5.heap.size=Wb.heap.size+2):=by
   rw [yP];refine ⟨?_,Boxed.alloc (Boxed.new _ _ _) _,by rw [World.size_alloc,World.size_alloc];rfl⟩;have:=Boxed.new (Wb.drew.alloc (.cells #[.int .i64 (m:Int)] 3)) 3 (.int .i64 (k:Int));rw [World.size_alloc] at this;exact this
  have HX5:=n8 JU;clear yP JU g1 g2 oX;go_wp2_with fail;refine hK _ _ ?_;clear hK K
  gi_wp2_with fail
  have M8:Hid (ez w w5 w.heap.size (w.heap.size+1) wz.heap.size (.slice a n c) k (eL xss k i++fT xss k R 0)/\c_ w.heap.size wz.heap.size Wb w5):=by
   refine ⟨?_,c_.ext HX5⟩;have e:fT xss k R 0=[]:=rfl;rw [e,List.append_nil];exact zo.ext HX5
  have hlb:=(Array.getElem?_eq_some_iff.1 HL2).1;refine G1_ (l₀:=w4.heap.size+1) (r₀:=r2) (T:=3) (L:=bH m k) (w0:=w5) rfl (aO HL2 HX5) (by omega) (gf:=158) (lb:=#[.pointer (some ⟨Wb.heap.size+1,0,none⟩),.pointer (some ⟨Wb.heap.size,0,none⟩)]) rfl trivial (enters_of func158 (by kernel_rfl) rfl)
   (j5.inRound _ (d9_ _ (by omega) m k hk2 hcl (bH m k) HSJ.1 _ _ w5 HK5.1 HK5.2.1)) (Below.refl _ _) rfl
   (fun j W=>ez w W w.heap.size (w.heap.size+1) wz.heap.size (.slice a n c) k (eL xss k i++fT xss k R j)/\c_ w.heap.size wz.heap.size Wb W) ?ab2 M8 ?rounds2 ?done2
  case ab2 =>
   rintro j W' W'' row ⟨hI,hO⟩ hg hr;have h3:=HS3.out;have h4:=BH.2.2;have h5:=HK5.2.2;refine ⟨hI.grown hg (fun e=>?_) (fun e=>?_) (fun e=>?_) (fun r e=>?_),hO.later hg fun r e=>?_⟩
   ·have:=(hr _ e).1;omega
   ·have:=(hr _ e).1;omega
   ·have:=(hr _ e).1;omega
   ·obtain ⟨h5,o,ho,h6⟩:=hr r e;refine ⟨by omega,fun C fr hc=>?_⟩;rw [hc] at ho;cases ho;rcases h6 with h6 | ⟨C',fr',h6⟩
    ·simp [Obj.isCells] at h6
    ·simp at h6
   ·have:=(hr _ e).1;omega
  case done2 =>
   rintro W' ⟨hI,hO⟩;have hb:=zo.box;have hE:eL xss k i++fT xss k R (bH m k).length=eL xss k (i+1):=by
    rw [HNM.out.2,Z0l (R:=R) (by rw [<- HNM.out.1];exact HR.out)]
   rw [hE] at hI;have HIM:=n8 hI;clear hI
   gi_wp2_with fail
   exact ⟨hO.keepF hb.2,hO.keepT hb.1,HIM⟩
  case rounds2 =>
   rintro j C vc W' hC ⟨hI,hO⟩ Gd ⟨r3,wu⟩;have hCk:=HSJ.1.len C (oD hC);have hCm:=HSJ.1.lt C (oD hC);obtain ⟨gC,CC,frC,wX,-,-⟩:=id Gd.at_;rw [hCk] at wX;subst wX;have HVC:=n8 Gd;have HIC:=n8 hI;have HOC:=n8 hO;have HC:=n8 hC;have HCK:=n8 hCk;have HCM:=n8 hCm;have HL3:=n8 wu;clear Gd hI hO hC hCk hCm wu
   gi_wp2_with fail
   refine ⟨KeepsFrom.refl _ _,fZ.refl _ _,?_⟩;rintro Wc yB ⟨r4,vG⟩ ⟨r5,sh⟩ xL;have zn:Hid (ez w Wc w.heap.size (w.heap.size+1) wz.heap.size (.slice a n c) k (eL xss k i++fT xss k R j)):=by
    have h3:=HS3.out;have h4:=BH.2.2;have h5:=HK5.2.2;refine HIC.grown yB (fun e=>?_) (fun e=>?_) (fun e=>?_) (fun r e=>?_)
    ·have e:=oL e;omega
    ·have e:=oL e;omega
    ·have e:=oL e;omega
    ·cases e;exact ⟨by omega,fun C fr hc=>by rw [vG] at hc;simp at hc⟩
   have Hq:Hid (c_ w.heap.size wz.heap.size Wb Wc):=HOC.later yB (fun r e=>by have e:=oL e;have:=HK5.2.2;omega);have HSC:=n8 (HVC.keep xL);have HSR:=n8 (Df.keep (Hq.keepT zo.box.1));have hw3:=HS3.out;have hw4:=BH.2.2;have HBR:Hid (Boxed Wc W.heap.size 26 (.slice (some ⟨gR,0,none⟩) k k)):=(Hq.block _ HBB.lt (.inr ⟨fun e=>by omega,fun C fr e=>by rw [show Wb.heap[W.heap.size]?=_ from HBB.out] at e;simp at e⟩)).trans HBB;have HL5:=n8 sh;have g1:=zn.bm.cell;have g2:=zn.bk.cell;have g3:=HBR.cell;clear yB vG sh xL HIC HOC HVC HL3 hw3 hw4;rw [show (Fence.wide.inRound (w4.heap.size+1)).inRound w5.heap.size=Fence.wide.inRound w5.heap.size from rfl]
   gi_wp2_with fail
   have HXC:=n8 zn.old
   gi_loopw [59,10] (fun t u wx=>∃ (p:Nat) (tags:List (Nat×Nat)),p<=k/\t=.int .i64 p/\Hid (aC Wc wx)/\Hid (bO gE 27 wx Wc.heap.size Wc.heap.size u tags (bM xss (R.take p) C))) (fun t _ _=>k-(intOf t).toNat)
   case atStart=>exact ⟨0,[],by omega,rfl,aC.refl _,bO.nil _ _ _ _ _⟩
   case round =>
    obtain ⟨p,tags,Nj,rfl,rl,Dn⟩:=hrel;obtain ⟨wo,rfl⟩:∃ wo:World,wo=wr:=⟨_,rfl⟩;clear g1 g2 g3;by_cases hlt:p<k
    ·obtain ⟨x,hx⟩:∃ x,R[p]?=some x:=⟨_,n9 (by rw [HRK.out];exact hlt)⟩;have Kz:x<n:=HRN x (oD hx);have d1:=rl.cell (HSR.cells hx);have HPT:=n8 (Z0t (m:=xss) (C:=C) hx);obtain ⟨b,off,rfl,Ab,hcell⟩:=HCELL (by intro e;have:=HNM.1;rw [e] at this;simp at this;omega);obtain ⟨xs,vz⟩:∃ xs,xss[x]?=some xs:=⟨_,n9 (by rw [<- HNM.out.1];exact Kz)⟩;obtain ⟨ux,hux,pG⟩:=hcell x xs vz;have hxl:=(HRR xs (oD vz)).1;obtain ⟨ax,cx,rfl,l1,l2,-,lb,lc⟩:=au.open hux;rw [hxl,<- HNM.out.2] at pG l1;have HCX:=n8 pG;have HLC:=n8 lc;have HLB:=n8 lb;have HXL:=n8 hxl;have HGD:Hid (xss.getD x []=xs):=by unfold Hid;rw [oC,vz];rfl
     unfold maxLen at l2;clear hx hcell hux pG lc lb vz hxl
     gi_wp2_with fail
     clear d1
     gi_loopw [65,13] (fun t u wx=>∃ q:Nat,q<=k/\t=.int .i64 q/\Hid (aC wo wx)/\Hid (cS wo.heap.size wx u (fV xs C q))) (fun t _ _=>k-(intOf t).toNat)
     case atStart=>exact ⟨0,by omega,rfl,aC.refl _,World.ownsRow_nil _ _ _ _⟩
     case round =>
      obtain ⟨q,FP,rfl,pU,HQ⟩:=hrel;obtain ⟨wi,rfl⟩:∃ wi:World,wi=wr:=⟨_,rfl⟩;by_cases hlq:q<k
      ·obtain ⟨y,hy⟩:∃ y,C[q]?=some y:=⟨_,n9 (by rw [HCK.out];exact hlq)⟩;have Ks:y<m:=HCM y (oD hy);have hyl:y<xs.length:=by rw [HXL.out,<- HNM.out.2];exact Ks
       have d1:=(rl.trans pU).cell (HSC.cells hy);have d2:=(rl.trans pU).cell zn.bm.cell;have d3:=((HXC.trans rl).trans pU).cell HCX;obtain ⟨z,hz⟩:∃ z,xs[y]?=some z:=⟨_,n9 hyl⟩;obtain ⟨bx,offx,rfl,hbx,rK⟩:=HLC (by intro e;rw [e] at hyl;simp at hyl);have d4:=((HXC.trans rl).trans pU).cell (rK y z hz);have HSU:Hid ((fV xs C (q+1))=(fV xs C q)++[z]):=Z0u hy hz;have p1:(0:Int)<=(x:Int):=by omega
       have p2:(x:Int)<(n:Int):=by omega
       have p3:(0:Int)<=(y:Int):=by omega
       have p4:(y:Int)<(m:Int):=by omega
       have HSZ:Hid (wo.heap.size<=wi.heap.size):=pU.size;have HLN:Hid ((fV xs C q).length<1000000):=by unfold Hid;rw [q9_ (by rw [HCK.out];omega)];omega
       clear hy hz rK hyl
       gi_wp2_with (gi_at_builtin;go_must (refine Y4_ rfl (by intro c h;cases h) (fun K hK=>?_);refine Q0_ wi _ _ 27 underlying27 rfl wo.heap.size u13 (fV xs C q) z #[.int .i64 z] 3 rfl HQ (by rfl) rfl HLN HSZ ?_))
       intro v' w2 xV hb2;rw [<- HSU.out] at xV;have HQ3:=n8 xV;have HX2:Hid (aC wo w2):=Below.trans pU hb2;clear xV hb2 d1 d2 d3 d4;refine hK _ _ ?_;clear hK K
       gi_wp2_with fail
       go_roundw
       case rel=>exact ⟨q+1,by omega,by go_num,HX2,HQ3⟩
       case measure=>simp [intOf];omega
      ·obtain rfl:q=k:=by omega
       have hQ:=HQ.out;have hpl:(fV xs C q).length=q:=q9_ (by rw [HCK.out];exact oJ _);obtain ⟨gq,cq,rfl,e1,e2,e3,e4⟩:=iz hQ (by omega);rw [hpl] at hQ e3 |-;have hRI:eE wi gq (fV xs C q):=eE.ofOwn (B:=wo.heap.size) (n:=q) (c:=cq) (by have:=HQ.out;unfold cS at this;rw [hpl] at this;exact this);have HRI:=n8 hRI;have HPL:=n8 hpl;have HO2:=n8 (Dn.ext pU);have HV2:Hid (u10.ownBlock≠some gq):=fun e=>by have:=(Dn.own.lt _ e).2;omega
       have HN2:Hid (gq∉tags.map (·.1)):=fun e=>by have:=(Dn.fresh e).2;omega
       have HSZ:Hid (Wc.heap.size<=gq/\Wc.heap.size<=wi.heap.size):=by
        have h1:=rl.size;have h2:=pU.size;exact ⟨by omega,by omega⟩
       have HLN:Hid ((bM xss (R.take p) C).length<1000000):=by unfold Hid;rw [iN];simp;omega
       have D6:Hid ((fV xs C q).length<=cq/\cq<=9223372036854775807):=⟨by rw [hpl];exact e3,e4⟩;have HPA:=n8 (Z2m HCK HGD);clear hQ hpl hRI e1 e2 e3 e4
       gi_wp2_with (gi_at_builtin;go_must (refine Y4_ rfl (by intro c h;cases h) (fun K hK=>?_);refine Y5_ (K:=gE) (e:=27) underlying23 M8_ wi _ _ rfl Wc.heap.size Wc.heap.size u10 tags (bM xss (R.take p) C) (gq,cq) (fV xs C q) #[.slice (some ⟨gq,0,none⟩) q cq] 27 rfl HO2 (by rfl) (by rw [iR,HPL.out]) D6.1 D6.2 HRI HSZ.1 HV2 HN2 HLN HSZ.2 ?_))
       intro v' w5 qG hb5 _;rw [HPA.out,<- HPT.out] at qG;have HO5:=n8 qG;have HX5':=n8 (Below.trans (aC.trans rl pU) hb5);clear qG hb5;refine hK _ _ ?_;clear hK K
       gi_wp2_with fail
       go_roundw
       case rel=>exact ⟨p+1,_,by omega,by go_num,HX5',HO5⟩
       case measure=>simp [intOf];omega
    ·obtain rfl:p=k:=by omega
     rw [show R.take p=R from by rw [<- HRK.out,List.take_length]] at Dn
     gi_wp2_with fail
     have HXD:=n8 (aC.trans HXC rl);obtain ⟨d,hd⟩:∃ d,d=(aj (bJ (bM xss R C)) p).det:=⟨_,rfl⟩;have HD0:=n8 hd;have Hn:Hid (∀ X,aC wo X->bQ X u10 (bM xss R C)):=fun X hX=>(Dn.ext hX).rows2 (fun r hr x hx=>by have:=Z4e (R:=R) (C:=C) (fun r hr=>(HRR r hr).2.2) r hr x hx;omega);have HROW:Hid (∀ X,aC wo X->Calls prog 110 #[u10,.func (.func 111) #[] #[]] X fun e X'=>∃ u tg,e=.returned u/\bO kU 197 X' X.heap.size X.heap.size u tg (bJ (bM xss R C))/\aC X X'):=fun X hX=>by
      have:=Z4s (bM xss R C) u10 111 #[] (fun _=>[]) X (Hn X hX) (by rw [iN,HRK.out];omega) (fun r hr=>by rw [q8_ r hr,HCK.out];omega) (fun i r hr=>⟨by
       have h1:=q8_ r (oD hr);have h2:=(n_.1 hr).1;rw [iN,HRK.out] at h2
       rw [h1,HCK.out];simp;omega,by simp⟩) (enters_of func111 (by kernel_rfl) rfl) (q5_ _ _) (HT.ext (HXD.trans hX))
      rw [i3_] at this;exact this
     have BB:Hid (∀ u tg X Y,bO kU 197 Y X.heap.size X.heap.size u tg (bJ (bM xss R C))->aC wo X->aC X Y->Calls prog 109 #[u,.int .i64 (p:Int)] Y fun e Y'=>∃ av nv cv,e=.returned (.tuple #[.slice av nv cv,.agg #[.string (aD d.num),.string (aE d.den)]])/\aC X Y'/\aP (fun b=>b∈tg.map (·.1)\/u.ownBlock=some b) Y Y'):=fun u tg X Y hO hX hY=>by
      have hc:=G9_ (bJ (bM xss R C)) p p u tg X Y hO hY (by rw [<- HCK.out];exact P8_ xss R C) (oJ _) (by omega) (by rw [mA,iN,HRK.out];omega) (HOK R (oD (by rw [<- HNM.out.1];exact HR)) C (oD (by rw [<- HNM.out.2];exact HC))) (HT.ext (HXD.trans hX)) (fun e=>by
       have:=mA (bM xss R C);rw [e,iN,HRK.out] at this
       simpa using this.symm)
      refine hc.mono ?_;rintro e Y' ⟨v,rfl,hR⟩;obtain ⟨av,cv,rfl,-,-⟩:=hR.lead.form;exact ⟨av,_,cv,by rw [hd];rfl,hR.ext,hR.keep⟩
     have qm:Hid (∀ u,aC wo u->u.cell? ⟨w.heap.size+1,0,none⟩=some (.int .i64 (p:Int))):=fun u hu=>(rl.trans hu).cell zn.bk.cell;clear hd;refine R0_ (fun u=>u.cell? ⟨w.heap.size+1,0,none⟩=some (.int .i64 (p:Int))/\Hid (aC wo u)) 9 (by kernel_rfl) (by kernel_rfl) (by rintro ⟨_,_,h⟩;exact absurd (show Exit.outgrown=Exit.normal from h.1) (by simp)) ⟨((rl.trans (aC.drew wo)).cell zn.bk.cell),aC.drew wo⟩ (fun oX=>?_);obtain ⟨wd,If⟩:∃ wd,wd=wo.drew:=⟨_,rfl⟩;rw [<- If] at oX |-;clear If;refine rA [0,2] ?_
     iterate 2 ((first|(refine rL (v:=?_) (by rfl) (Or.inl ⟨by rfl,?_⟩) ?_;rotate_left;·((intro w' oz);(try dsimp only at oz);(try go_simp);(try with_reducible rfl)))|(refine rW (v:=?_) (by rfl) (Or.inl ⟨by rfl,?_⟩) ?_;rotate_left;·((intro w');(try go_simp);(try with_reducible rfl))));(try simp only [Act.put,aK,aL,aM]))
     refine rE ?_;refine h7_ 1 7 (by kernel_rfl) rfl rfl (fun K hK=>?pB) (fun K hK=>?pA)
     case' pB =>
      go_simp
      (go_at_call 110;refine (HROW _ oX.2).mono ?_)
      rintro e Y ⟨u1,IW,rfl,xW,hE1⟩;have HO1:=n8 xW;have HY1:=n8 hE1;have HXR:=n8 oX.2;have hs1:=hE1.size;clear hE1 xW;go_wp2_with fail;refine hK _ _ ⟨qm _ (aC.trans HXR HY1),aC.trans HXR HY1⟩ (fun oX=>?_);clear hK K
      (try simp only [Act.put,aK,aL,aM])
      refine h7_ 3 7 (by kernel_rfl) rfl rfl (fun K hK=>?pB1) (fun K hK=>?pB2)
     case' pB1 =>
      go_simp
      (go_at_call 109;refine (BB _ _ wd _ (HO1) HXR (HY1)).mono ?_)
      rintro e Z ⟨av,nv,cv,rfl,oY,zc⟩;have HZ:=n8 oY;have HG:=n8 zc;have HXZ:=n8 (aC.trans HXR oY);clear oY zc;go_wp2_with fail;refine hK _ _ ⟨qm _ HXZ,HXZ⟩ (fun oX=>?_);clear hK K
      (try simp only [Act.put,aK,aL,aM])
      refine rA [4,5,6] ?_
      iterate 3 (refine rW (v:=?_) (by rfl) (Or.inl ⟨by rfl,?_⟩) ?_;rotate_left;·((intro w');(try go_simp);(try with_reducible rfl));(try simp only [Act.put,aK,aL,aM]))
      refine rE ?_;refine dO 7 (by kernel_rfl) rfl (fun K hK=>?_);go_simp;obtain ⟨B,hB⟩:∃ B,B=Z.heap.size:=⟨_,rfl⟩;obtain ⟨X1,vN,oh,hs3,hb3⟩:=dr Z (.string ⟨#[]⟩) (.string ⟨#[]⟩) 152;rw [vN];rw [<- hB] at hb3;rw [show (Z).heap.size=B from hB.symm];have vT:Hid (ah B X1):=⟨_,_,hb3⟩;have HBL:Hid (wo.heap.size<=B):=by unfold Hid;rw [hB];exact oX.2.size
      have IS:Hid (B=Z.heap.size):=hB;have HY3:=n8 oh;have HX3:=n8 (aC.trans oX.2 oh);clear vN oh hs3 hb3 hB;refine hK _ _ ⟨qm _ HX3,HX3⟩ (fun oX=>?_);clear hK K
      (try simp only [Act.put,aK,aL,aM])
      refine tW (v:=?_) 8 rfl (Or.inl ⟨by rfl,?_⟩) ?_;rotate_left
      ·((intro w');(try go_simp);(try with_reducible rfl))
      (try simp only [Act.put,aK,aL,aM])
      have sW:Hid (ah B X1):=vT.out;obtain ⟨x0,x1,s0,s1,f0,f1⟩:=sW.open;have HXF:=n8 oX.2;refine fL 9 (by kernel_rfl) (by kernel_rfl) (by kernel_rfl) rfl (fun K hK=>?_);go_simp;refine hK _ _ ?_;clear hK K s0 s1 f0 f1
      (try simp only [Act.put,aK,aL,aM])
      obtain ⟨F,hF⟩:∃ F,F=(X1.setCell ⟨B,0,none⟩ (.string (aD d.num))).setCell ⟨B,1,none⟩ (.string (aE d.den)):=⟨_,rfl⟩;have IE:Hid (dE F B d):=by rw [hF];exact sW.res
      have HFX:Hid (aC wo F):=by rw [hF];exact eH HXF HBL
      rw [<- hF];clear hF oX HXF sW
     case' pB2 =>
      go_simp;obtain ⟨B,hB⟩:∃ B,B=Y.heap.size:=⟨_,rfl⟩;obtain ⟨X1,vN,oh,hs3,hb3⟩:=dr Y (.string ⟨#[]⟩) (.string ⟨#[]⟩) 152;rw [vN];rw [<- hB] at hb3;rw [show (Y).heap.size=B from hB.symm];have vT:Hid (ah B X1):=⟨_,_,hb3⟩;have HBL:Hid (wo.heap.size<=B):=by unfold Hid;rw [hB];exact oX.2.size
      have IS:Hid (B=Y.heap.size):=hB;have HY3:=n8 oh;have HX3:=n8 (aC.trans oX.2 oh);clear vN oh hs3 hb3 hB;refine hK _ _ ⟨qm _ HX3,HX3⟩ (fun oX=>?_);clear hK K
      (try simp only [Act.put,aK,aL,aM])
      refine dO 3 (by kernel_rfl) rfl (fun K hK=>?_);go_simp
      (go_at_call 109;refine (BB _ _ wd _ (HO1.ext HY3) HXR (HY1.trans HY3)).mono ?_)
      rintro e Z ⟨av,nv,cv,rfl,oY,zc⟩;have HZ:=n8 oY;have HG:=n8 zc;have HXZ:=n8 (aC.trans HXR oY);clear oY zc;go_wp2_with fail;refine hK _ _ ⟨qm _ HXZ,HXZ⟩ (fun oX=>?_);clear hK K
      (try simp only [Act.put,aK,aL,aM])
      refine rA [4,5,6,8] ?_
      iterate 4 (refine rW (v:=?_) (by rfl) (Or.inl ⟨by rfl,?_⟩) ?_;rotate_left;·((intro w');(try go_simp);(try with_reducible rfl));(try simp only [Act.put,aK,aL,aM]))
      refine rE ?_;have sW:Hid (ah B Z):=by
       obtain ⟨x,y,hxy⟩:=vT.out;refine ⟨x,y,(HG.block B (dS hxy) ?_).trans hxy⟩;have hbe:=IS.out;rintro (hb | hb)
       ·have:=(HO1.fresh hb).2;omega
       ·have:=(HO1.own.lt _ hb).2;omega
      obtain ⟨x0,x1,s0,s1,f0,f1⟩:=sW.open;have HXF:=n8 oX.2;refine fL 9 (by kernel_rfl) (by kernel_rfl) (by kernel_rfl) rfl (fun K hK=>?_);go_simp;refine hK _ _ ?_;clear hK K s0 s1 f0 f1
      (try simp only [Act.put,aK,aL,aM])
      obtain ⟨F,hF⟩:∃ F,F=(Z.setCell ⟨B,0,none⟩ (.string (aD d.num))).setCell ⟨B,1,none⟩ (.string (aE d.den)):=⟨_,rfl⟩;have IE:Hid (dE F B d):=by rw [hF];exact sW.res
      have HFX:Hid (aC wo F):=by rw [hF];exact eH HXF HBL
      rw [<- hF];clear hF oX HXF sW
     case' pA =>
      go_simp;obtain ⟨B,hB⟩:∃ B,B=wd.heap.size:=⟨_,rfl⟩;obtain ⟨X1,vN,oh,hs3,hb3⟩:=dr wd (.string ⟨#[]⟩) (.string ⟨#[]⟩) 152;rw [vN];rw [<- hB] at hb3;rw [show (wd).heap.size=B from hB.symm];have vT:Hid (ah B X1):=⟨_,_,hb3⟩;have HBL:Hid (wo.heap.size<=B):=by unfold Hid;rw [hB];exact oX.2.size
      have IS:Hid (B=wd.heap.size):=hB;have HY3:=n8 oh;have HX3:=n8 (aC.trans oX.2 oh);clear vN oh hs3 hb3 hB;refine hK _ _ ⟨qm _ HX3,HX3⟩ (fun oX=>?_);clear hK K
      (try simp only [Act.put,aK,aL,aM])
      refine dO 1 (by kernel_rfl) rfl (fun K hK=>?_);go_simp
      (go_at_call 110;refine (HROW _ oX.2).mono ?_)
      rintro e Y ⟨u1,IW,rfl,xW,hE1⟩;have HO1:=n8 xW;have HY1:=n8 hE1;have HXR:=n8 oX.2;have hs1:=hE1.size;clear hE1 xW;go_wp2_with fail;refine hK _ _ ⟨qm _ (aC.trans HXR HY1),aC.trans HXR HY1⟩ (fun oX=>?_);clear hK K
      (try simp only [Act.put,aK,aL,aM])
      refine dO 3 (by kernel_rfl) rfl (fun K hK=>?_);go_simp
      (go_at_call 109;refine (BB _ _ X1 _ (HO1) HXR (HY1)).mono ?_)
      rintro e Z ⟨av,nv,cv,rfl,oY,zc⟩;have HZ:=n8 oY;have HG:=n8 zc;have HXZ:=n8 (aC.trans HXR oY);clear oY zc;go_wp2_with fail;refine hK _ _ ⟨qm _ HXZ,HXZ⟩ (fun oX=>?_);clear hK K
      (try simp only [Act.put,aK,aL,aM])
      refine rA [4,5,6,8] ?_
      iterate 4 (refine rW (v:=?_) (by rfl) (Or.inl ⟨by rfl,?_⟩) ?_;rotate_left;·((intro w');(try go_simp);(try with_reducible rfl));(try simp only [Act.put,aK,aL,aM]))
      refine rE ?_;have sW:Hid (ah B Z):=ah.ext vT HZ;obtain ⟨x0,x1,s0,s1,f0,f1⟩:=sW.open;have HXF:=n8 oX.2;refine fL 9 (by kernel_rfl) (by kernel_rfl) (by kernel_rfl) rfl (fun K hK=>?_);go_simp;refine hK _ _ ?_;clear hK K s0 s1 f0 f1
      (try simp only [Act.put,aK,aL,aM])
      obtain ⟨F,hF⟩:∃ F,F=(Z.setCell ⟨B,0,none⟩ (.string (aD d.num))).setCell ⟨B,1,none⟩ (.string (aE d.den)):=⟨_,rfl⟩;have IE:Hid (dE F B d):=by rw [hF];exact sW.res
      have HFX:Hid (aC wo F):=by rw [hF];exact eH HXF HBL
      rw [<- hF];clear hF oX HXF sW
     all_goals
      have HMF:=n8 (zn.ext (rl.trans HFX));obtain ⟨vo,rT,hown⟩:=HMF.out.out;have t0:=rT.cell;have t1:=IE.cells.1;have HBO:=n8 rT;have HOWN:=n8 hown;have xq:Hid (w.heap.size≠wz.heap.size/\w.heap.size+1≠wz.heap.size):=by have:=HS3.2;exact ⟨by omega,by omega⟩
      have HLL:Hid ((eL xss p i++fT xss p R j).length<8000000):=Z28 xss p i j R (by rw [<- HNM.out.1];exact HSI.2.2) (by rw [<- HNM.out.2];exact HSJ.2.2);have HNX:Hid (eL xss p i++fT xss p R (j+1)=(eL xss p i++fT xss p R j)++[d.num]):=by
       unfold Hid;rw [k3_ (C:=C) (by rw [<- HNM.out.2];exact HC.out),List.append_assoc];unfold ea;rw [<- HD0.out]
      obtain ⟨L,hL⟩:∃ L,L=eL xss p i++fT xss p R j:=⟨_,rfl⟩;rw [<- hL] at HMF HOWN HLL HNX;have NC:Hid (w.heap.size<=F.heap.size):=HMF.old.size;clear rT hown hL
      gi_wp2_with (gi_at_builtin;go_must (refine Y4_ rfl (by intro c h;cases h) (fun K hK=>?_);refine v5_ F _ _ rfl w.heap.size vo L d.num #[.string (aD d.num)] 53 rfl HOWN (by rfl) rfl HLL NC ?_))
      intro v' w9 pw oe;obtain ⟨wv,hold,s0,s1⟩:=HMF.push HBO HOWN d.num pw oe xq.1 xq.2;obtain ⟨gv,cv',sG⟩:=ownsRow_succ pw;subst sG;rw [<- HNX.out] at wv;have HPU:=n8 wv;have HOL:=n8 (((c_.ext (n0:=w.heap.size) (Bo:=wz.heap.size) (rl.trans HFX))).trans hold);have HBW:=n8 zn.box;clear wv hold pw oe t0 t1;refine hK _ _ ?_;clear hK K
      gi_wp2_with fail
      exact ⟨HOL.keepF HBW.2,HOL.keepT HBW.1,HPU,Hq.trans HOL⟩
end Go.Proofs.YtjlkkofmojgipaaGreatDoor
namespace Go.Proofs.YtjlkkofmojgipaaGreatDoor
open Go.RowKit Go.Proofs.Tryz
def cL (w:World) (v:Value) (n k:Nat) (X:List Int):Prop:=∃ r,v=.agg #[.int .i64 n,.int .i64 k,r]/\aI 1 numC w r X
theorem numC.mono':jF numC:=fun _ _ _ _ _ h=>h
theorem cL.ext {w w':World} {v:Value} {n k:Nat} {X:List Int} (h:cL w v n k X) (he:aC w w'):cL w' v n k X:=by
 obtain ⟨r,hv,h1⟩:=h;exact ⟨r,hv,aI.ext numC.mono' h1 he⟩
theorem gZ {w w':World} {v:Value} {X:List Int} {B:Nat} {C:Array Value} {T:TypeId} (h:aI 1 numC w v X) (hB:w.heap[B]?=some (.cells C T (0,0))) (AH:∀ (i:Nat) s,C[i]?≠some (.string s)) (hg:w.grownBy w' (some B)):aI 1 numC w' v X:=by
 obtain ⟨us,h1,h2,⟨a,cap,rfl,q1,q2,q3,q4⟩,h4⟩:=h;refine ⟨us,h1,h2,⟨a,cap,rfl,q1,q2,q3,fun hne=>?_⟩,fun j u x hu hx=>h4 j u x hu hx⟩;obtain ⟨b,off,ha,hb,hc⟩:=q4 hne;refine ⟨b,off,ha,oH hb hg.size,fun j u hu=>?_⟩;have hcell:=hc j u hu;have hs:∃ s,u=.string s:=by
  obtain ⟨l,hl,sZ⟩:=List.mem_flatten.1 (oD hu);obtain ⟨i,hi⟩:=List.getElem?_of_mem hl;obtain ⟨x,hx⟩:∃ x,X[i]?=some x:=⟨_,n9 (by rw [<- h1];exact (n_.1 hi).1)⟩;have h5:l=[.string (aD x)]:=h4 i l x hi hx;rw [h5,List.mem_singleton] at sZ;exact ⟨_,sZ⟩
 obtain ⟨s,rfl⟩:=hs;have MA:b≠B:=by
  rintro rfl;rw [aN hB] at hcell;exact AH _ _ hcell
 rw [<- hcell];unfold World.cell?;rw [hg.block b hb (fun e=>by cases e;exact MA rfl)]
theorem gV {w:World} {B:Nat} {x y z:Value} (h:w.heap[B]?=some (.cells #[x,y,z] 31 (0,0))) (a b c:Value):(((w.setCell ⟨B,0,none⟩ a).setCell ⟨B,1,none⟩ b).setCell ⟨B,2,none⟩ c).heap[B]?=some (.cells #[a,b,c] 31 (0,0)):=by
 have:=fA (fA (fA h 0 a) 1 b) 2 c;simpa using this
theorem en (w:World) (B:Nat) (a b c:Value):w.grownBy (((w.setCell ⟨B,0,none⟩ a).setCell ⟨B,1,none⟩ b).setCell ⟨B,2,none⟩ c) (some B) :=
 iI (iI (eJ w B 0 a) (eJ _ B 1 b)) (eJ _ B 2 c)
theorem dW {w W:World} {B:Nat} (hE:aC w W) (hB:w.heap.size<=B) (a b c:Value):aC w (((W.setCell ⟨B,0,none⟩ a).setCell ⟨B,1,none⟩ b).setCell ⟨B,2,none⟩ c) :=
 ((hE.setCell (p:=⟨B,0,none⟩) hB a).setCell (p:=⟨B,1,none⟩) hB b).setCell (p:=⟨B,2,none⟩) hB c
theorem gU (n k:Int) (i:Nat) (s:ByteArray):(#[Value.int .i64 n,Value.int .i64 k,Value.slice none 0 0]:Array Value)[i]?≠some (.string s):=by
 match i with
 | 0=>simp
 | 1=>simp
 | 2=>simp
 | i+3=>simp
def Z6j (v:Value) (k:Nat) (X:List Int) (W:World):Prop:=Calls prog 54 #[v,.int .i64 (k:Int)] W fun e w'=>∃ r,e=.returned (.tuple #[r,.int .i64 0])/\aI 1 numC w' r X/\aC W w'
theorem Z5L (xss:List (List Int)) (n:Nat) (X:List Int) (v:Value) (w:World) (h:bQ w v xss) (hE:bw xss=0) (hn:n<=12) (hk:xss.length<=n) (hc:∀ r∈xss,r.length=n) (hM:∀ W,aC w W->Z6j v xss.length X W) :
  Calls prog 15 #[v,.int .i64 n] w fun e w'=>∃ u,e=.returned (.tuple #[u,.int .i64 0])/\aC w w'/\cL w' u n xss.length X:=by
 obtain ⟨w1,o4⟩:∃ w1,w1=w.alloc (.cells #[.int .i64 0,.int .i64 0,.slice none 0 0] 31):=⟨_,rfl⟩;have hb:w1.heap[w.heap.size]?=some (.cells #[.int .i64 0,.int .i64 0,.slice none 0 0] 31 (0,0)):=by rw [o4];exact ic w _ _
 have hE1:aC w w1:=by rw [o4];exact aC.alloc _ _
 have HE1:=n8 hE1;have HB:=n8 hb;have HCH:Hid (∀ W,aC w W->oW 53 #[v] W (.int .i64 0)):=fun W hW=>by
  have:=W6_ xss v W (h.ext hW);rw [hE] at this;exact this
 have HM:=n8 hM;have HR:=n8 h;obtain ⟨a,cap,rfl,h1,h2,-,pd⟩:=bT.open h;have HCC:=n8 pd;have HCN:=n8 hc;obtain ⟨k,hk2⟩:∃ k,xss.length=k:=⟨_,rfl⟩;have HKL:=n8 hk2;rw [hk2] at HM HCH h1 hk |-;unfold maxLen at h2;clear hb hE1 h hE hM pd hc hk2;have c1:¬ ((n:Int)<0):=by omega
 have c2:¬ (12<(n:Int)):=by omega
 have c3:¬ ((n:Int)<(k:Int)):=by omega
 by_cases hz:k=0
 ·subst hz
  go_enter func15,ntmps15
  go_wp2_with fail;generalize pO:w.alloc _=w9;obtain rfl:w9=w1:=by rw [<- pO,o4]
  clear o4 pO;refine (HCH w9 HE1).mono ?_;rintro e w2 ⟨rfl,h2⟩;have HE2:Hid (aC w w2):=HE1.trans h2;have HB2:=n8 (aO HB h2);clear h2 HCH HB;go_wp2_with fail;refine (HM w2 HE2).mono ?_;rintro e w3 ⟨r,rfl,hr,h3⟩;have HE3:Hid (aC w w3):=HE2.trans h3;have HB3:=n8 (aO HB2 h3);obtain ⟨ra,rc,rfl,-⟩:=aI.open hr;have HX:=n8 hr;clear h3 hr HB2 HM;obtain ⟨m,hm⟩:∃ m,X.length=m:=⟨_,rfl⟩;rw [hm] at HX;have f0:=cD HB3;have k0:=aN HB3;go_wp2_with fail;have hb7:=gV HB3 (.int .i64 (n:Int)) (.int .i64 0) (.slice ra m rc);refine bodyPost_ret (nf (by rfl) _ _ w.heap.size 31 #[.int .i64 n,.int .i64 0,.slice ra m rc] (0,0) _ (.int .i64 0) (by rfl) (by rfl) hb7 underlying31 (by rfl) (by kernel_rfl)) (by rfl) ⟨_,rfl,dW HE3 (oJ _) _ _ _,_,rfl,?_⟩;exact gZ HX HB3 (gU 0 0) (en _ _ _ _ _)
 ·have hx:xss≠[]:=by intro e;rw [e] at HKL;exact hz HKL.symm
  obtain ⟨b,off,rfl,hb,hcell⟩:=HCC hx;obtain ⟨y,hy⟩:∃ y,xss[0]?=some y:=⟨_,n9 (by have:=HKL.out;omega)⟩;obtain ⟨u,hu,qX⟩:=hcell 0 y hy;have hyl:=HCN y (oD hy);obtain ⟨ua,uc,rfl,-⟩:=aI.open hu;rw [hyl,Nat.add_zero] at qX;have HCU:=n8 qX;have c4:0<(k:Int):=by omega
  clear hcell hu qX hb hyl hy hx
  go_enter func15,ntmps15
  go_wp2_with fail;generalize pO:w.alloc _=w9;obtain rfl:w9=w1:=by rw [<- pO,o4]
  clear o4 pO;refine (HCH w9 HE1).mono ?_;rintro e w2 ⟨rfl,h2⟩;have HE2:Hid (aC w w2):=HE1.trans h2;have HB2:=n8 (aO HB h2);have hcu2:=HE2.cell HCU;clear h2 HCH HB;go_wp2_with fail;refine (HM w2 HE2).mono ?_;rintro e w3 ⟨r,rfl,hr,h3⟩;have HE3:Hid (aC w w3):=HE2.trans h3;have HB3:=n8 (aO HB2 h3);obtain ⟨ra,rc,rfl,-⟩:=aI.open hr;have HX:=n8 hr;clear h3 hr HB2 HM hcu2;obtain ⟨m,hm⟩:∃ m,X.length=m:=⟨_,rfl⟩;rw [hm] at HX;have f0:=cD HB3;have k0:=aN HB3;go_wp2_with fail;have hb7:=gV HB3 (.int .i64 (n:Int)) (.int .i64 (k:Int)) (.slice ra m rc);refine bodyPost_ret (nf (by rfl) _ _ w.heap.size 31 #[.int .i64 n,.int .i64 k,.slice ra m rc] (0,0) _ (.int .i64 0) (by rfl) (by rfl) hb7 underlying31 (by rfl) (by kernel_rfl)) (by rfl) ⟨_,rfl,dW HE3 (oJ _) _ _ _,_,rfl,?_⟩;exact gZ HX HB3 (gU 0 0) (en _ _ _ _ _)
theorem Z0n:dQ [] 0=[1]:=by decide +kernel
def Z6Y (_:World) (v:Value) (x:Int):Prop:=v=.string (aD x)
theorem f8_ (a b:Int):((aD a).toList == (aD b).toList)=decide (a=b):=by rw [J3_,J3_,Z1R]
abbrev eP (w:World) (v:Value) (xs:List Int):Prop:=aI 1 (bT Z6Y) w v xs
theorem eP.ext {w w':World} {v:Value} {xs:List Int} (h:eP w v xs) (he:aC w w'):eP w' v xs:=aI.ext (fun _ _ _ _ _ h=>h) h he
theorem eP.of_nums {w:World} {v:Value} {X:List Int} (h:aI 1 numC w v X):eP w v X:=by
 obtain ⟨us,h1,h2,h3,h4⟩:=h;exact ⟨us,h1,h2,h3,fun j u x hu hx=>⟨_,h4 j u x hu hx,rfl⟩⟩
def gQ (n k:Nat) (X:List Int) (n' k':Nat) (Y:List Int):Bool:=decide (n=n') && decide (k=k') && (X == Y)
theorem T9_ {n k:Nat} {X:List Int} {n' k':Nat} {Y:List Int} (h:n≠n'\/k≠k'\/X≠Y):gQ n k X n' k' Y=false:=by
 unfold gQ;rcases h with h | h | h
 ·rw [oR h];simp
 ·rw [oR h];simp
 ·rw [beq_eq_false_iff_ne.2 h];simp
theorem o1_ (n k:Nat) (X:List Int) (n' k':Nat) (Y:List Int) (u v:Value) (w:World) (h:cL w u n k X) (h':cL w v n' k' Y) :
  oW 17 #[u,v] w (.bool (gQ n k X n' k' Y)):=by
 obtain ⟨r,rfl,hr⟩:=h;obtain ⟨r',rfl,yU⟩:=h';obtain ⟨a,c,rfl,h1,h2,-,hc⟩:=bT.open (eP.of_nums hr);obtain ⟨a',c',rfl,J8,G8,-,qj⟩:=bT.open (eP.of_nums yU);unfold maxLen at h2 G8;obtain ⟨w1,o4⟩:∃ w1,w.alloc (.cells #[.int .i64 n,.int .i64 k,.slice a X.length c] 31)=w1:=⟨_,rfl⟩;obtain ⟨w2,pZ⟩:∃ w2,w1.alloc (.cells #[.int .i64 n',.int .i64 k',.slice a' Y.length c'] 31)=w2:=⟨_,rfl⟩;have hb1:w1.heap[w.heap.size]?=some (.cells #[.int .i64 n,.int .i64 k,.slice a X.length c] 31 (0,0)):=by rw [<- o4];exact ic w _ _
 have hb2:w2.heap[w1.heap.size]?=some (.cells #[.int .i64 n',.int .i64 k',.slice a' Y.length c'] 31 (0,0)):=by rw [<- pZ];exact ic w1 _ _
 have hE1:aC w w1:=by rw [<- o4];exact aC.alloc _ _
 have oY:aC w1 w2:=by rw [<- pZ];exact aC.alloc _ _
 have HX:Hid (aC w w2):=hE1.trans oY;have k1:=aN (aO hb1 oY);have k2:=aN hb2;have HC:=n8 hc;have HC':=n8 qj;clear hr yU hb1 hb2 hE1 oY hc qj;by_cases c1:n=n'
 ·subst c1;by_cases c2:k=k'
  ·subst c2;by_cases c3:X.length=Y.length
   ·have q3:((X.length:Int) != (Y.length:Int))=false:=by simp [c3]
    obtain ⟨m,hm⟩:∃ m,Y.length=m:=⟨_,rfl⟩;have hm1:X.length=m:=by omega
    have HM:=n8 hm;have HM1:=n8 hm1;rw [hm1,hm] at q3;rw [hm1] at k1 h1 o4;rw [hm] at k2 J8 pZ;rw [hm1,hm];have d0:=k1 2;have d1:=k2 2;simp only [oQ,oO,oP] at d0 d1;have D:=n8 (And.intro d0 d1);clear c3 hm hm1 d0 d1
    go_enter func17,ntmps17
    go_wp2_with fail
    go_loopw [5] (fun t wr=>∃ j:Nat,j<=m/\t=.int .i64 j/\aC w2 wr/\Hid (X.take j=Y.take j)) (fun t _=>m+1-(intOf t).toNat)
    case atStart=>exact ⟨0,by omega,rfl,aC.refl _,rfl⟩
    case round =>
     obtain ⟨j,hj,rfl,hE,HT⟩:=hrel;clear k1 k2 o4 pZ;have d0:=hE.cell D.out.1;have d1:=hE.cell D.out.2;by_cases hlt:j<m
     ·obtain ⟨x,hx⟩:∃ x,X[j]?=some x:=⟨_,n9 (by have:=HM1.out;omega)⟩;obtain ⟨y,hy⟩:∃ y,Y[j]?=some y:=⟨_,n9 (by have:=HM.out;omega)⟩;obtain ⟨b,off,rfl,hb,hcell⟩:=HC (by intro e;rw [e] at hx;simp at hx);obtain ⟨b',off',rfl,qx,xQ⟩:=HC' (by intro e;rw [e] at hy;simp at hy);obtain ⟨z1,e1,g1⟩:=hcell j x hx;obtain ⟨z2,e2,g2⟩:=xQ j y hy;obtain rfl:z1=.string (aD x):=e1;obtain rfl:z2=.string (aD y):=e2;have g1:=(HX.trans hE).cell g1;have g2:=(HX.trans hE).cell g2;have q1:(j:Int)<(m:Int):=by omega
      have HXX:=n8 hx;have HYY:=n8 hy;have hs:=f8_ x y;clear hcell xQ hx hy;by_cases hxy:x=y
      ·rw [oS hxy] at hs;have tR:((aD x).toList != (aD y).toList)=false:=by unfold bne;rw [hs];rfl
       have Mk:Hid (X.take (j+1)=Y.take (j+1)):=by
        unfold Hid;rw [oG,oG,HXX.out,HYY.out,HT.out,hxy]
       clear hxy;go_wp2_with fail
       go_quiet (fail)
       go_wp2_with fail;go_roundw
       case rel=>exact ⟨j+1,by omega,by go_num,aC.draws hE _,Mk⟩
       case measure=>simp [intOf];omega
      ·rw [oR hxy] at hs;have tR:((aD x).toList != (aD y).toList)=true:=by unfold bne;rw [hs];rfl
       have HF:Hid (gQ n k X n k Y=false):=T9_ (.inr (.inr (by
        intro e;have e1:=HXX.out;have e2:=HYY.out;rw [e,e2] at e1
        exact hxy (by simpa using e1.symm))))
       clear hxy;go_wp2_with fail
       go_quiet (fail)
       go_wp2_with fail;go_ret;exact ⟨by rw [HF.out];rfl,aC.draws (HX.trans hE) _⟩
     ·obtain rfl:j=m:=by omega
      have HF:Hid (gQ n k X n k Y=true):=by
       have h9:=HT.out;rw [List.take_of_length_le (by have:=HM1.out;omega),List.take_of_length_le (by have:=HM.out;omega)] at h9;unfold Hid gQ;rw [h9];simp
      go_wp2_with fail;go_ret;exact ⟨by rw [HF.out];rfl,HX.trans hE⟩
   ·have q3:((X.length:Int) != (Y.length:Int))=true:=by simp;omega
    have HD:Hid (gQ n k X n k Y=false):=T9_ (.inr (.inr fun e=>c3 (by rw [e])))
    go_enter func17,ntmps17
    go_wp2_with fail;go_ret;exact ⟨by rw [HD.out];rfl,HX⟩
  ·have HD:Hid (gQ n k X n k' Y=false):=T9_ (.inr (.inl c2));have q2:((k:Int) != (k':Int))=true:=by simp;omega
   go_enter func17,ntmps17
   go_wp2_with fail;go_ret;exact ⟨by rw [HD.out];rfl,HX⟩
 ·have HD:Hid (gQ n k X n' k' Y=false):=T9_ (.inl c1);have q1:((n:Int) != (n':Int))=true:=by simp;omega
  go_enter func17,ntmps17
  go_wp2_with fail;go_ret;exact ⟨by rw [HD.out];rfl,HX⟩
theorem O3_ (x:Int) (o:Bool) (w:World) (hx:(aD x).size<=10000000000) :
  oW 62 #[.string (aD x),.bool o] w (.string (aD (bu x o))):=by
 have HN:=n8 (mD x w hx);cases o
 ·have HD:Hid (bu x false=x):=rfl
  go_enter func62,ntmps62
  go_wp2_with fail;go_ret;exact ⟨by rw [HD.out];rfl,aC.refl _⟩
 ·have HD:Hid (bu x true=-x):=rfl
  go_enter func62,ntmps62
  go_wp2_with fail;refine HN.mono ?_;rintro e w3 ⟨rfl,h3⟩;have HE3:=n8 h3;clear h3 HN;go_wp2_with fail;go_ret;exact ⟨by rw [HD.out];rfl,HE3⟩
def fM (l:List UInt8):Bool:=l.all cI && (decide (l.length=1) || (decide (1<l.length) && decide (l.head?≠some 48)))
theorem Q7_ (c:UInt8):cI c=true↔48<=(c.toNat:Int)/\(c.toNat:Int)<=57:=by
 unfold cI;rw [decide_eq_true_eq];omega
theorem A2_ (m:ByteArray) (w:World) (hm:m.size<=100000) :
  oW 195 #[.string m] w (.bool (fM m.data.toList)):=by
 obtain ⟨cap,W1,hcv,hE1,hcell⟩:=g4_ m w;have HE1:=n8 hE1;have HC:=n8 hcell;clear hE1 hcell
 go_enter func195,ntmps195
 go_wp2_with fail;clear hcv
 go_loopw [8] (fun t wr=>∃ j:Nat,j<=m.size/\t=.int .i64 j/\aC w wr/\aC W1 wr/\Hid ((m.data.toList.take j).all cI=true)) (fun t _=>m.size+1-(intOf t).toNat)
 case atStart=>exact ⟨0,by omega,rfl,HE1,aC.refl _,rfl⟩
 case round =>
  obtain ⟨j,hj,rfl,hE,wM,HA⟩:=hrel;have HE:=n8 hE;have HE':=n8 wM;by_cases hlt:j<m.size
  ·obtain ⟨c,hc⟩:∃ c,m.data.toList[j]?=some c:=⟨_,kt m j hlt⟩;have g1:=wM.cell (HC j c hc);have N0:(c.toNat:Int)<=255:=by have:=c.toNat_lt;omega
   have zg:Hid ((m.data.toList.take (j+1)).all cI=(cI c)):=by
    unfold Hid;rw [oG,hc,List.all_append,HA.out];simp
   have xw:Hid (cI c=false->fM m.data.toList=false):=by
    intro h;have:m.data.toList.all cI=false:=by
     rw [List.all_eq_false];exact ⟨c,oD hc,by simp [h]⟩
    unfold fM;rw [this];rfl
   clear hc hE wM;by_cases h1:(c.toNat:Int)<48
   ·have HF:Hid (fM m.data.toList=false):=xw (by rw [<- Bool.not_eq_true,Q7_];omega);go_wp2_with fail;go_ret;exact ⟨by rw [HF.out];rfl,HE⟩
   ·by_cases h2:57<(c.toNat:Int)
    ·have HF:Hid (fM m.data.toList=false):=xw (by rw [<- Bool.not_eq_true,Q7_];omega);go_wp2_with fail;go_ret;exact ⟨by rw [HF.out];rfl,HE⟩
    ·have HD:Hid ((m.data.toList.take (j+1)).all cI=true):=by
      unfold Hid;rw [zg.out,Q7_];omega
     go_wp2_with fail;go_roundw
     case rel=>exact ⟨j+1,by omega,by go_num,HE,HE',HD⟩
     case measure=>simp [intOf];omega
  ·obtain rfl:j=m.size:=by omega
   have HL:Hid (m.data.toList.length=m.size):=(Lib.size_eq m).symm;have xw:Hid (m.data.toList.all cI=true):=by
    unfold Hid;have:=HA.out
    rwa [List.take_of_length_le (by rw [<- Lib.size_eq];omega)] at this
   by_cases h0:m.size=1
   ·have HV:Hid (fM m.data.toList=true):=by unfold Hid fM;rw [xw.out,HL.out,oS h0];rfl
    have q0:((m.size:Int) == 1)=true:=beq_iff_eq.2 (by omega);go_wp2_with fail;go_ret;exact ⟨by rw [HV.out];rfl,HE⟩
   ·have q0:((m.size:Int) == 1)=false:=beq_eq_false_iff_ne.2 (by omega);by_cases h1:1<m.size
    ·have q1:1<(m.size:Int):=by omega
     have hb:=kt m 0 (by omega);have HV:Hid (fM m.data.toList=((m[0].toNat:Int) != 48)):=by
      unfold Hid fM;have e1:m.data.toList.head?=some m[0]:=by rw [List.head?_eq_getElem?];exact hb
      rw [xw.out,HL.out,oR h0,oS h1,e1,Bool.true_and,Bool.true_and,Bool.false_or,Bool.eq_iff_iff];simp only [bne_iff_ne,ne_eq,Option.some.injEq,decide_eq_true_eq];rw [<- UInt8.toNat_inj];show ¬ (m[0].toNat=48)↔_;omega
     clear hb;go_wp2_with fail;go_ret;exact ⟨by rw [HV.out];rfl,HE⟩
    ·have q1:¬ 1<(m.size:Int):=by omega
     have HV:Hid (fM m.data.toList=false):=by unfold Hid fM;rw [HL.out,oR h0,oR h1];simp
     go_wp2_with fail;go_ret;exact ⟨by rw [HV.out];rfl,HE⟩
end Go.Proofs.YtjlkkofmojgipaaGreatDoor
