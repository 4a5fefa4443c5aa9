import Derived.Test.YtoonaddcfakamaaGreatDoorZAG
import Derived.Test.YtoonaddcfakamaaGreatDoorZAI
import Derived.Test.YtoonaddcfakamaaGreatDoorZAH
import Derived.Test.YtoonaddcfakamaaGreatDoorZAA
import Derived.Lib.SliceRun
import Derived.WalkSpells
import Derived.Laws.AppendOwnNone
set_option linter.unusedVariables false
set_option linter.unusedSimpArgs false
set_option maxRecDepth 1000000
set_option maxHeartbeats 4000000
namespace Go.Proofs.YtoonaddcfakamaaGreatDoor
open Go.RowKit Go.Shelf Go.Proofs.Tryz
theorem A8_ {w:World} {base:Nat} {e:TypeId} {k:Nat} {v:Value} {n:Nat} {xs:List Value} (h:w.ownsRow base e k v n xs) {g:Nat} (hg:v.ownBlock=some g) {o:Obj} (ho:w.heap[g]?=some o) (hc:o.isCells=false):False:=by
 rcases h.2 with ⟨rfl,_⟩ | ⟨g',cap,cur,rfl,_,qR,_⟩
 ·simp [Value.ownBlock] at hg
 ·simp [Value.ownBlock] at hg;subst hg;rw [qR] at ho;cases ho;simp [Obj.isCells] at hc
def gZ (m:pN):List Value:=m.map fun x=>Value.string (aB x)
structure fH (w W:World) (B b4 b5 gr cr:Nat) (s m:pN):Prop where
 old:aA w W
 h4:W.heap[b4]?=some (.cells #[.slice (some ⟨gr,0,none⟩) s.length cr] 263 (0,0))
 row:aW W gr 0 s
 out:∃ vo,W.heap[b5]?=some (.cells #[vo] 263 (0,0))/\W.ownsRow w.heap.size 92 1 vo m.length (gZ m)/\vo.ownBlock≠some gr
 ne:b4≠gr/\b5≠gr/\b4≠b5
 low:w.heap.size<=b4/\w.heap.size<=b5/\w.heap.size<=gr
 lt:b4<B/\b5<B/\gr<B
theorem jm {w W W':World} {row:Option Nat} (h:aA w W) (hg:W.grownBy W' row) (hr:∀ r,row=some r->w.heap.size<=r):aA w W' :=
 Below.trans h ⟨hg.os,hg.tape,hg.output,hg.size,fun k hk=>hg.block k (ov hk h.size) (fun e=>by have:=hr k e.symm;omega)⟩
theorem Z6s {W:World} {base:Nat} {e:TypeId} {n:Nat} {v:Value} {xs:List Value} (h:W.ownsRow base e 1 v n xs):∀ b,v.ownBlock=some b->base<=b/\b<W.heap.size:=h.lt
theorem fH.grown {w W W':World} {B b4 b5 gr cr:Nat} {s m:pN} (h:fH w W B b4 b5 gr cr s m) (hB:w.heap.size<=B) {row:Option Nat} (hg:W.grownBy W' row) (hr:∀ r,row=some r->B<=r/\∃ o:Obj,W.heap[r]?=some o/\o.isCells=false):fH w W' B b4 b5 gr cr s m:=by
 obtain ⟨vo,o1,o2,o3⟩:=h.out;have l:=h.lt;have hne:∀ b,b<B->row≠some b:=fun b hb e=>by have:=(hr b e).1;omega
 refine ⟨jm h.old hg (fun r e=>ow hB (hr r e).1),eV h.h4 hg (hne _ l.1),h.row.same hg.size (hg.block gr h.row.lt (fun e=>hne _ l.2.2 e.symm)),⟨vo,eV o1 hg (hne _ l.2.1),o2.kept hg ?_,o3⟩,h.ne,h.low,l⟩;cases hv:vo.ownBlock with
 | none=>exact .inl rfl
 | some b =>
  refine .inr fun e=>?_;obtain ⟨-,o,ho,hc⟩:=hr b e.symm;exact A8_ o2 hv ho hc
theorem fH.ab {w:World} {B b4 b5 gr cr:Nat} (hB:w.heap.size<=B) (xss:pM) (r:pN):nF B (fun i W=>∃ s m,fY xss r i=some (s,m)/\fH w W B b4 b5 gr cr s m):=by
 rintro i W W' row ⟨s,m,h1,h2⟩ hg hr;exact ⟨s,m,h1,h2.grown hB hg hr⟩
theorem fH.ext {w W W':World} {B b4 b5 gr cr:Nat} {s m:pN} (h:fH w W B b4 b5 gr cr s m) (hB:w.heap.size<=B) (he:aA W W'):fH w W' B b4 b5 gr cr s m :=
 h.grown hB (row:=none) ⟨he.os,he.tape,he.output,he.size,fun k hk _=>he.block k hk⟩ (fun r e=>by cases e)
theorem fH.less {w W W':World} {B b4 b5 gr cr:Nat} {s m s':pN} (h:fH w W B b4 b5 gr cr s m) (hg:aH (·=gr) W W') (hR:aW W' gr 0 s') (hl:s'.length=s.length):fH w W' B b4 b5 gr cr s' m/\KeepsFrom B W W':=by
 obtain ⟨vo,o1,o2,o3⟩:=h.out;have vt:W.grownBy W' (some gr):=⟨hg.os,hg.tape,hg.output,hg.size,fun k hk e=>hg.block k hk (fun hh=>e (by rw [hh]))⟩;refine ⟨⟨jm h.old vt (fun r e=>by cases e;exact h.low.2.2),by rw [hl];exact eV h.h4 vt (fun e=>h.ne.1 (o5 e).symm),hR,⟨vo,eV o1 vt (fun e=>h.ne.2.1 (o5 e).symm),o2.kept vt ?_,o3⟩,h.ne,h.low,h.lt⟩,⟨hg.size,fun k o hk ho _=>?_⟩⟩
 ·cases hv:vo.ownBlock with
  | none=>exact .inl rfl
  | some b=>exact .inr fun e=>o3 (hv.trans e)
 ·have:=h.lt.2.2;exact (hg.block k (cG ho) (fun e=>by omega)).trans ho
theorem fH.push {w W0 W w':World} {B b4 b5 gr cr:Nat} {s m:pN} (h:fH w W0 B b4 b5 gr cr s m) (he:aA W0 W) {vo v':Value} {q:Int} (hb:W.heap[b5]?=some (.cells #[vo] 263 (0,0))) (hown:W.ownsRow w.heap.size 92 1 vo m.length (gZ m)) (hne:vo.ownBlock≠some gr)
  (hB:w.heap.size<=B) (hgr:gr<W.heap.size) (Dt:w'.ownsRow w.heap.size 92 1 v' (m.length+1) (gZ m++[.string (aB q)])) (hg:W.grownBy w' vo.ownBlock) (qb:v'.ownBlock=vo.ownBlock\/v'.ownBlock=some W.heap.size) :
  fH w (w'.setCell ⟨b5,0,none⟩ v') B b4 b5 gr cr s (m++[q])/\KeepsFrom B W (w'.setCell ⟨b5,0,none⟩ v'):=by
 have h':=h.ext hB he;have l:=h.lt;have e4:=lh hown h'.h4 (by decide);have e5:=lh hown hb (by decide);have g1:=fT w' b5 0 v';have k4:=eV h'.h4 hg e4;have k5:=eV hb hg e5;have hrow:=h'.row.same hg.size (hg.block gr h'.row.lt (fun e=>hne e.symm));have e5':=lh Dt k5 (by decide);have tU:v'.ownBlock≠some gr:=by
  rcases qb with e | e;·rw [e];exact hne
  ·rw [e];intro hh;have:=o5 hh;omega
 refine ⟨⟨?_,eV k4 g1 (fun e=>h.ne.2.2 (o5 e).symm),hrow.other b5 0 v' (fun e=>h.ne.2.1 e.symm),⟨v',?_,?_,tU⟩,h.ne,h.low,l⟩,?_⟩;·refine jm (jm h'.old hg (fun r e=>(Z6s hown r e).1)) g1 (fun r e=>by cases e;exact h.low.2.1)
 ·have:=dr k5 0 v';simpa using this
 ·have:(gZ (m++[q]))=gZ m++[.string (aB q)]:=by simp [gZ]
  rw [this,pG];refine Dt.kept g1 ?_;cases hv:v'.ownBlock with
  | none=>exact .inl rfl
  | some b=>exact .inr fun e=>e5' (hv.trans e)
 ·refine ⟨ow hg.size g1.size,fun k o hk ho hc=>?_⟩;have hk5:k≠b5:=fun e=>by omega
  refine (g1.block k (ov (cG ho) hg.size) (fun e=>hk5 (o5 e))).trans ((hg.block k (cG ho) (fun e=>?_)).trans ho);exact A8_ hown e.symm ho hc
attribute [local go_sem] Oper.semAt_some
theorem s7_ {o:Oper} {a:Act} {K:Act->World->Prop} {Q:Exit->Act->World->Prop} (F:World) (s x:Operand) (ho:o.op=Op.call { callee:=Callee.builtin Builtin.append,args:=#[s,x],argTypes:=#[263,263] }) (B:Nat)
  (vo:Value) (L:pN) (y:Int) (u:Array Value) (T:TypeId) (hs:a.eval s=vo) (hB:F.ownsRow B 92 1 vo L.length (gZ L)) (hx:a.eval x=.slice (some ⟨F.heap.size,0,none⟩) 1 1) (hu:u=#[.string (aB y)]) (hlen:L.length<8000000) (pX:B<=F.heap.size)
  (h:∀ v' w',w'.ownsRow B 92 1 v' (L.length+1) (gZ L++[.string (aB y)])->(F.alloc (.cells u T)).grownBy w' vo.ownBlock->(v'.ownBlock=vo.ownBlock\/v'.ownBlock=some (F.alloc (.cells u T)).heap.size)->K (a.put o.dst v') w'):o.wp prog a (F.alloc (.cells u T)) K Q:=by
 subst hu;obtain ⟨i0,hi,hz,pZ,qK⟩:=info_parts ny;have py:∀ j,(⟨F.heap.size,0,none⟩:Addr).add j=⟨F.heap.size,j,none⟩:=by intro j;unfold Addr.add;split <;> simp_all
 refine iR (F.alloc (.cells #[.string (aB y)] T)) s x _ ho B 92 i0 (.string ⟨#[]⟩) 1 16 underlying263 hi hz pZ qK rfl (by decide) vo L.length (gZ L) hs (hB.alloc _) ⟨F.heap.size,0,none⟩ 1 1 [.string (aB y)] hx rfl ?_ ?_ ?_ ?_ ?_ ?_
 ·intro j q hq;rw [py,World.cell?_alloc_new];simpa using hq
 ·intro u hu;rw [List.mem_singleton.1 hu];rfl
 ·unfold maxLen;omega
 ·omega
 ·simp;omega
 ·intro v' w' hown pQ _ qb;exact h v' w' hown pQ qb
theorem z5_ (n:Int) (xss:pM) (u:Value) (w:World) (hu:aw w u xss) :
  Calls prog 216 #[.agg #[.int .i64 n,u]] w fun e w'=>∃ bL,e=.returned (.func (.func 293) #[] #[.pointer (some ⟨bL,0,none⟩)])/\w'.heap[bL]?=some (.cells #[.int .i64 n,u] 76 (0,0))/\aA w w':=by
 obtain ⟨a,c,rfl,h1,h2,-,hc⟩:=ae.open hu;clear hu hc
 go_enter func216,ntmps216
 go_wp2_with fail;go_ret;exact ⟨w.heap.size,rfl,dq _ _ _,aA.alloc _ _⟩
theorem E7_ {P:Program} {fn:Func} {p q:Tmp} {ty:TypeId} (h:fn.results=#[.cell p ty,.cell q ty]) (tmps:Array Value) (w:World) (g k:Nat) (x y:Value)
  (hp:tmps.getD p undef=.pointer (some ⟨g,0,none⟩)) (hq:tmps.getD q undef=.pointer (some ⟨k,0,none⟩)) (hl:∀ g x,w.cell? ⟨g,0,none⟩=some x->(loadVar ty ⟨g,0,none⟩).run P w=.ok x w) (hg:w.cell? ⟨g,0,none⟩=some x) (hk:w.cell? ⟨k,0,none⟩=some y) :
  (results fn tmps).run P w=.ok (.tuple #[x,y]) w:=by
 have sD:tmps[p]?.getD undef=.pointer (some ⟨g,0,none⟩):=by simpa using hp
 have E0:tmps[q]?.getD undef=.pointer (some ⟨k,0,none⟩):=by simpa using hq
 simp [results,h,sD,E0,asAddr,hl _ _ hg,hl _ _ hk,Sem.run_bind,Result.andThen]
theorem e2_ (n:Int) (xss:pM) (r R M:pN) (v vx:Value) (w:World) (h:cM w v n xss) (hx:aM w vx r) (hl:r.length<=1000) (hxl:xss.length<=1000) (hlen:∀ x∈xss,x.length=r.length) (hR:fY xss r xss.length=some (R,M)) (ht:ag w) (hb:3<w.heap.size) :
  Calls prog 231 #[v,vx] w fun e w'=>∃ gr cr vm,e=.returned (.tuple #[.slice (some ⟨gr,0,none⟩) R.length cr,vm])/\aW w' gr 0 R/\(R.length<=cr/\cr<=maxLen)/\w'.ownsRow w.heap.size 92 1 vm M.length (gZ M)/\aA w w':=by
 have HLO:=oZ (fun W (hW:aA w W)=>V7_ r vx W (hx.ext hW) hl (ht.ext hW));have HLEN:=oZ hlen;have HT:=oZ ht;have HB:=oZ hb;have HR:=oZ hR;have HL:=oZ hl;obtain ⟨u,rfl,hu⟩:=h;have HPV:=oZ (fun W (hW:aA w W)=>z5_ n xss u W (hu.ext hW));have HU:=oZ hu;obtain ⟨a,c,rfl,h1,h2,-,hc⟩:=ae.open hu;obtain ⟨ax,cx,rfl,x1,x2,-,-,-⟩:=hx.open;clear hu hc hx hlen ht hb hR hl;refine (callsIn_wide (n:=9)).1 ?_;refine callsIn_of_wp_marks func231 rfl trivial ?_ rfl;simp only [ntmps231,List.size_toArray,List.length_cons,List.length_nil,Nat.reduceAdd,Nat.reduceSub,Array.replicate_succ,Array.replicate_zero,List.push_toArray,List.append_toArray,List.nil_append,List.cons_append];obtain ⟨W1,pc,hE1,hs1,hb1⟩:=eC w (.int .i64 n) (.slice a xss.length c);obtain ⟨W2,qv⟩:=pK (W1.alloc (.cells #[.slice none 0 0] 263));obtain ⟨W3,vP⟩:=pK (W2.alloc (.cells #[.slice none 0 0] 263));have hE2:aA W1 W2:=by rw [<- qv];exact aA.alloc _ _
 have pS:aA W2 W3:=by rw [<- vP];exact aA.alloc _ _
 have hb2:W2.heap[W1.heap.size]?=some (.cells #[.slice none 0 0] 263 (0,0)):=by rw [<- qv];exact dq _ _ _
 have px:W3.heap[W2.heap.size]?=some (.cells #[.slice none 0 0] 263 (0,0)):=by rw [<- vP];exact dq _ _ _
 have hs2:W2.heap.size=W1.heap.size+1:=by rw [<- qv];simp
 have hs3:W3.heap.size=W2.heap.size+1:=by rw [<- vP];simp
 have z1:W1.heap.size=w.heap.size+1:=hs1;have z2:W2.heap.size=w.heap.size+1+1:=by omega
 have z3:W3.heap.size=w.heap.size+1+1+1:=by omega
 have HK1:=oZ (aF (aF hb1 hE2) pS);have HK2:Hid (W3.heap[w.heap.size+1]?=some (.cells #[.slice none 0 0] 263 (0,0))):=by have:=aF hb2 pS;rw [z1] at this;exact this
 have HK3:Hid (W3.heap[w.heap.size+1+1]?=some (.cells #[.slice none 0 0] 263 (0,0))):=by rw [z2] at px;exact px
 have HE3:=oZ (hE1.trans (hE2.trans pS));clear hE1 hE2 pS hb1 hb2 px hs1 hs2 hs3;refine wpIn_wide.2 ?_;go_wp2_with fail;refine (HLO _ HE3).mono ?_;rintro e w4 ⟨g4,c4,rfl,wg,xf,AU,BT,hE4⟩;have HE4:=oZ (HE3.trans hE4);have hk1:=aF HK1 hE4;have hk2:=aF HK2 hE4;have hk3:=aF HK3 hE4;have n1:w.heap.size+1+1+1<=g4:=by omega
 have HX5:Hid (aA w (w4.setCell ⟨w.heap.size+1,0,none⟩ (.slice (some ⟨g4,0,none⟩) r.length c4))):=Below.setCell HE4 (show w.heap.size<=w.heap.size+1 by omega) _;have hb4:=dr hk2 0 (.slice (some ⟨g4,0,none⟩) r.length c4);have gs:=fT w4 (w.heap.size+1) 0 (.slice (some ⟨g4,0,none⟩) r.length c4);have HB4:Hid ((w4.setCell ⟨w.heap.size+1,0,none⟩ (.slice (some ⟨g4,0,none⟩) r.length c4)).heap[w.heap.size+1]?=some (.cells #[.slice (some ⟨g4,0,none⟩) r.length c4] 263 (0,0))):=by unfold Hid;simpa using hb4
 have HB1:=oZ (eV hk1 gs (fun e=>by have:=o5 e;omega));have HB5:=oZ (eV hk3 gs (fun e=>by have:=o5 e;omega));have HR5:=oZ (wg.other (w.heap.size+1) 0 (.slice (some ⟨g4,0,none⟩) r.length c4) (by omega));have k0:=ah hk2 0;have k1:=cQ hk2 0;simp only [pC,o_,o9] at k0;have HG4:=oZ (And.intro n1 (And.intro AU BT));have Cf:g4<w4.heap.size:=wg.lt;have HLT4:=oZ Cf;unfold maxLen at BT;clear hE4 wg xf hk1 hk2 hk3 hb4 gs n1 Cf HLO;obtain ⟨wO,wN,-⟩:=bY HB1;have yg:(w4.setCell ⟨w.heap.size+1,0,none⟩ (.slice (some ⟨g4,0,none⟩) r.length c4)).heap.size=w4.heap.size:=by simp [World.setCell]
 have HSZ5:=oZ yg;clear yg;go_wp2_with fail;refine (HPV _ HX5).mono ?_;rintro e w6 ⟨bL,rfl,C8,pR⟩;have HE6:=oZ (HX5.trans pR);have HRI:Hid (fH w w6 w6.heap.size (w.heap.size+1) (w.heap.size+1+1) g4 c4 r []):=by
  have hs:=pR.size;rw [HSZ5.out] at hs;have h1:=HG4.1;have h2:=HLT4.out;exact ⟨HE6,aF HB4 pR,HR5.ext pR,⟨_,aF HB5 pR,World.ownsRow_nil _ _ _ _,by simp [Value.ownBlock]⟩,⟨by omega,by omega,by omega⟩,⟨by omega,by omega,by omega⟩,⟨by omega,by omega,by omega⟩⟩
 have HL6:=oZ C8;have Bh:Hid (w.heap.size<=w6.heap.size):=HE6.size;clear pR C8 wO wN HB1 HB4 HB5 HR5 HX5 HK1 HK2 HK3 pc qv vP z1 z2 z3 k0 k1;go_wp2_with fail;refine (wpIn_wide (n:=9)).1 ?_;refine W9_ rfl (by omega) (gf:=293) (lb:=#[.pointer (some ⟨bL,0,none⟩)]) rfl trivial (enters_of func293 (by kernel_rfl) rfl)
  (z4_ (9-1) (by omega) n xss _ bL w w6 HL6 HU (fun x hx=>by rw [HLEN.out x hx];exact HL) HT) (fun W h=>h)
  (fun i A W args hY=>by obtain ⟨x,gx,cx,-,rfl,-⟩:=hY;rfl)
  (fun i W=>∃ s m,fY xss r i=some (s,m)/\fH w W w6.heap.size (w.heap.size+1) (w.heap.size+1+1) g4 c4 s m) (fH.ab Bh xss r) (fun i A hi=>by obtain ⟨s,m,-,h⟩:=hi;exact h.old) ⟨r,[],rfl,HRI⟩ ?rounds ?done
 case rounds =>
  rintro i A W args hi ⟨s,m,sB,hRI⟩ hE ⟨x,gx,cq,hx,rfl,Ai,hgx,yw,wH⟩ ⟨r0,wU⟩;have B5:aD xss i=x:=eO hx;obtain ⟨⟨z1,z2⟩,hz⟩:=Z3v HR (i+1) (by omega);obtain ⟨s',m',e1,a1,a2,a3,a4,a5,a6⟩:=G5_ hz;rw [sB] at e1;simp only [Option.some.injEq,Prod.mk.injEq] at e1;obtain ⟨rfl,rfl⟩:=e1;rw [B5] at a1 a2 a4 a5 a6;obtain ⟨b1,b2,b3⟩:=v8_ x a1;simp only at a5 a6;have hsl:=(K2_ sB).1;have hml:=(K2_ sB).2;have hil:i<xss.length:=hi;obtain ⟨C,hC⟩:=pK (gi x);rw [hC] at a2 b1 b2 b3;unfold mh at a5 a6;rw [hC] at a5 a6;obtain ⟨sc,wT⟩:=pK (s.getD C 0);obtain ⟨xc,wS⟩:=pK (x.getD C 0);have rQ:s[C]?=some sc:=by rw [<- wT,oe,oc a2];rfl
  have tG:x[C]?=some xc:=by rw [<- wS,oe,oc b1];rfl
  rw [wT,wS] at a5 a6;rw [wS] at b3;have HDM:=oZ (fun V (hV:aA w V)=>lB sc xc V (eG (List.all_eq_true.1 a3 _ (og rQ))) (eG (List.all_eq_true.1 a4 _ (og tG))) b3 (HT.ext hV));obtain ⟨q,hq⟩:=pK (aL sc xc);rw [hq] at a5 a6 HDM;have HA5:=oZ a5;have HA6:=oZ a6;have HZ:=oZ hz;have HML:=oZ hml;have HSL:=oZ hsl;have HGX:Hid (gx≠w6.heap.size+1):=fun e=>by
   have h1:=Ai.cell C xc tG;rw [Nat.zero_add] at h1;rw [e] at h1;unfold World.cell? at h1;rw [wU] at h1;simp at h1
  have HRI1:=oZ (hRI.ext Bh hE);have HRX:=oZ Ai;have Hq:Hid (g4≠gx):=fun e=>by have:=hRI.row.lt;omega
  have HCX:=oZ (And.intro yw wH);rw [b2];unfold maxLen at wH;have HSG:=oZ rQ;have HXG:=oZ tG;clear sB hRI hE hx B5 Ai hgx wU hz a1 a3 a4 a5 a6 b2 b3 hC wT wS hq rQ tG hsl hml hi
  gi_wp2_with fail
  refine ⟨KeepsFrom.refl _ _,?_⟩;rintro Wb qR ⟨r1,qm⟩ ⟨r2,pn⟩;have hRb:=HRI1.grown Bh qR (fun r e=>by cases e;exact ⟨by omega,_,qm,rfl⟩);have hXb:=HRX.same qR.size (qR.block gx HRX.lt (fun e=>HGX (o5 e)));have HRB:=oZ hRb;have HXB:=oZ hXb;have t0:=ah hRb.h4 0;have t1:=hRb.row.cell C sc HSG;have t2:=hXb.cell C xc HXG;rw [Nat.zero_add] at t1 t2;simp only [pC,o_,o9] at t0;have HXW:Hid (aA w Wb):=hRb.old;have q1:(C:Int)<(s.length:Int):=by omega
  have q2:(C:Int)<(x.length:Int):=by omega
  obtain ⟨NS,D8⟩:=pK s.length;obtain ⟨NX,yW⟩:=pK x.length;rw [D8] at t0 q1;rw [yW] at q2 |-;have HNS:=oZ D8;have HNX:=oZ yW;rw [D8] at a2;rw [yW] at b1;clear hRb hXb qR qm pn HRI1 HRX HGX D8 yW yw
  gi_wp2_with fail
  refine Z8_ (fun w'=>w'.cell? ⟨w.heap.size+1,0,none⟩=some (.slice (some ⟨g4,0,none⟩) NS c4)/\w'.cell? ⟨g4,C,none⟩=some (.string (aB sc))/\w'.cell? ⟨gx,C,none⟩=some (.string (aB xc))/\Hid (aA Wb w')) 15 (by kernel_rfl) (by kernel_rfl) (by rintro ⟨_,_,h⟩;exact absurd (show Exit.outgrown=Exit.normal from h.1) (by simp)) ⟨(aA.drew Wb).cell t0,(aA.drew Wb).cell t1,(aA.drew Wb).cell t2,aA.drew Wb⟩ (fun pO=>?_);refine rA [0,1,2,3,4,5,6,7] ?_
  iterate 8 ((first|(refine rL (v:=?_) (by rfl) (Or.inl ⟨by rfl,?_⟩) ?_;rotate_left;·((intro w' qM);(try dsimp only at qM);(try go_simp);(try with_reducible rfl)))|(refine rW (v:=?_) (by rfl) (Or.inl ⟨by rfl,?_⟩) ?_;rotate_left;·((intro w');(try go_simp);(try with_reducible rfl))));(try simp only [Act.put,aQ,aR,aS]))
  refine rE ?_;refine dH 8 (by kernel_rfl) rfl (fun K hK=>?_);go_simp
  (go_at_call 112;refine (HDM _ (aA.trans HXW pO.2.2.2)).mono ?_)
  rintro e wz ⟨rfl,pY⟩;go_wp2_with fail;refine hK _ _ ⟨(pY).cell pO.1,(pY).cell pO.2.1,(pY).cell pO.2.2.1,aA.trans pO.2.2.2 (pY)⟩ (fun pO=>?_);clear hK K
  (try simp only [Act.put,aQ,aR,aS])
  refine rA [9,10,11,12,13,14] ?_
  iterate 6 ((refine rW (v:=?_) (by rfl) (Or.inl ⟨by rfl,?_⟩) ?_;rotate_left;·((intro w');(try go_simp);(try with_reducible rfl)));(try simp only [Act.put,aQ,aR,aS]))
  refine rE ?_;refine fL 15 (by kernel_rfl) (by kernel_rfl) (by kernel_rfl) rfl (fun K hK=>?_);go_simp;refine hK _ _ ?_;clear hK K
  (try simp only [Act.put,aQ,aR,aS])
  have HEZ:Hid (aA Wb wz):=pO.2.2.2.out;have HRZ:=oZ (HRB.ext Bh HEZ);have HXZ:=oZ (HXB.ext HEZ);have u0:=pO.1;clear pO t0 t1 t2 pY HXB HRB;have HLS:Hid (Calls prog 228 #[.slice (some ⟨g4,0,none⟩) NS c4,.string (aB q),.slice (some ⟨gx,0,none⟩) NX cq] wz fun e w'=>e=.returned (.tuple #[])/\aH (·=g4) wz w'/\aW w' g4 0 z1):=by
   have hh:=L9_ q s x z1 g4 0 c4 gx 0 cq w.heap.size wz HRZ.row HXZ (fun e=>Hq e.symm) HA5 (by rw [HSL.out];exact HG4.2.1) HG4.2.2 HCX.1 HCX.2 (HT.ext HRZ.old) HB HRZ.low.2.2 HRZ.old.size;rw [HNS.out,HNX.out] at hh;exact hh
  gi_wp2_with fail
  refine ⟨trivial,(CallsIn.inRound _ (callsIn_wide.2 HLS)).mono ?_⟩;rintro e w7 ⟨rfl,v7,xv⟩;have Dl:z1.length=s.length:=lT HA5;obtain ⟨Aj,C9⟩:=HRZ.less v7 xv Dl;have HRI7:=oZ Aj;have HKF7:=oZ (KeepsFrom.trans (⟨HEZ.size,fun k o _ ho _=>(HEZ.block k (cG ho)).trans ho⟩:KeepsFrom w6.heap.size Wb wz) C9);obtain ⟨vo,o1,o2,o3⟩:=Aj.out;have HO1:=oZ o1;have HO2:=oZ o2;have HO3:=oZ o3;have u1:=ah o1 0;have u2:=cQ o1 0;simp only [pC,o_,o9] at u1;clear v7 xv Aj C9 o1 o2 o3 u0 HLS HXZ HRZ Dl;have Hk:Hid (m.length<8000000):=by unfold Hid;rw [HML.out];omega
  have Me:Hid (w.heap.size<=w7.heap.size):=HRI7.old.size
  gi_wp2_with (gi_at_builtin;go_must (refine Z3_ rfl (by intro c h;cases h) (fun K hK=>?_);refine s7_ w7 _ _ rfl w.heap.size vo m q #[.string (aB q)] 92 (by rfl) HO2 (by rfl) rfl Hk Me ?_))
  intro v' w9 qT pQ qb;obtain ⟨gv,cv',tU⟩:=ownsRow_succ qT;have e1:=aA.alloc w7 (.cells #[.string (aB q)] 92);obtain ⟨sC,Iw⟩:=HRI7.push e1 (aF HO1 e1) (HO2.alloc _) HO3 Bh (ov HRI7.row.lt e1.size) qT pQ (by rw [World.size_alloc];exact qb);have hk9:=eV (aF HO1 e1) pQ (lh HO2 HO1 (by decide));have u3:=ah hk9 0;have u4:=cQ hk9 0;simp only [pC,o_,o9] at u3;subst tU;rw [<- HA6.out] at sC;have HPU:=oZ sC;have HKF:=oZ (KeepsFrom.trans HKF7 (KeepsFrom.trans (⟨e1.size,fun k o _ ho _=>(e1.block k (cG ho)).trans ho⟩:KeepsFrom w6.heap.size w7 _) Iw));clear sC Iw e1 qT pQ qb hk9 u1 u2;refine hK _ _ ?_;clear hK K
  gi_wp2_with fail
  exact ⟨HKF,z1,z2,HZ,HPU⟩
 case done =>
  rintro W ⟨s,m,sB,hRI⟩ hD;have hRR:=HR.out;rw [sB] at hRR;simp only [Option.some.injEq,Prod.mk.injEq] at hRR;obtain ⟨rfl,rfl⟩:=hRR;have HRI2:=oZ hRI;have HD:=oZ hD;have HSL:=oZ (K2_ sB).1;obtain ⟨vo,o1,o2,o3⟩:=hRI.out;obtain ⟨av,nv,cv,rfl⟩:∃ a n c,vo=.slice a n c:=by
   rcases o2.2 with ⟨hv,_⟩ | ⟨g,c,_,hv,_⟩
   ·exact ⟨_,_,_,hv⟩
   ·exact ⟨_,_,_,hv⟩
  have HO1:=oZ o1;have HO2:=oZ o2;have u0:=ah hRI.h4 0;have u1:=ah o1 0;have f0:=cQ hRI.h4 0;have f1:=cQ o1 0;simp only [pC,o_,o9] at u0 u1;clear sB hRI hD o1 o2 o3;go_wp2_with fail
  go_region
  obtain ⟨X,hX⟩:=pL (((W.setCell ⟨w.heap.size+1,0,none⟩ (.slice (some ⟨g4,0,none⟩) s.length c4)).setCell ⟨w.heap.size+1+1,0,none⟩ (.slice av nv cv)).drew);rw [<- hX];have l1:W.grownBy (W.setCell ⟨w.heap.size+1,0,none⟩ (.slice (some ⟨g4,0,none⟩) s.length c4)) (some (w.heap.size+1)):=fT _ _ _ _;have l2:(W.setCell ⟨w.heap.size+1,0,none⟩ (.slice (some ⟨g4,0,none⟩) s.length c4)).grownBy ((W.setCell ⟨w.heap.size+1,0,none⟩ (.slice (some ⟨g4,0,none⟩) s.length c4)).setCell ⟨w.heap.size+1+1,0,none⟩ (.slice av nv cv)) (some (w.heap.size+1+1)):=fT _ _ _ _;have hne:=HRI2.ne;have hlow:=HRI2.low;have hlt:=HRI2.lt;have Jm:X.heap[w6.heap.size]?=some (.deferred (some [])):=by
   rw [hX];exact aF (eV (eV HD l1 (fun e=>by have:=o5 e;omega)) l2 (fun e=>by have:=o5 e;omega)) (aA.drew _)
  have s5:X.heap[w.heap.size+1]?=some (.cells #[.slice (some ⟨g4,0,none⟩) s.length c4] 263 (0,0)):=by
   have:=dr HRI2.h4 0 (.slice (some ⟨g4,0,none⟩) s.length c4);rw [hX];refine aF (eV ?_ l2 (fun e=>by have:=o5 e;omega)) (aA.drew _);simpa using this
  have IG:X.heap[w.heap.size+1+1]?=some (.cells #[.slice av nv cv] 263 (0,0)):=by
   have:=dr (eV HO1 l1 (fun e=>by have:=o5 e;omega)) 0 (.slice av nv cv);rw [hX];refine aF ?_ (aA.drew _);simpa using this
  have qN:aW X g4 0 s:=by
   rw [hX];exact ((HRI2.row.other _ 0 _ (fun e=>hne.1 e.symm)).other _ 0 _ (fun e=>hne.2.1 e.symm)).ext (aA.drew _)
  have IE:X.ownsRow w.heap.size 92 1 (.slice av nv cv) m.length (gZ m):=by
   have p1:(Value.slice av nv cv).ownBlock≠some (w.heap.size+1):=lh HO2 HRI2.h4 (by decide);have p2:(Value.slice av nv cv).ownBlock≠some (w.heap.size+1+1):=lh HO2 HO1 (by decide);rw [hX];refine et ((HO2.kept l1 ?_).kept l2 ?_) (aA.drew _)
   ·cases hv:(Value.slice av nv cv).ownBlock with
    | none=>exact .inl rfl
    | some b=>exact .inr fun e=>p1 (hv.trans e)
   ·cases hv:(Value.slice av nv cv).ownBlock with
    | none=>exact .inl rfl
    | some b=>exact .inr fun e=>p2 (hv.trans e)
  have sZ:aA w X:=by
   rw [hX];exact (jm (jm HRI2.old l1 (fun r e=>by cases e;omega)) l2 (fun r e=>by cases e;omega)).trans (aA.drew _)
  have HDX:=oZ Jm;have HX4:=oZ s5;have HX5:=oZ IG;have HXR:=oZ qN;have HXO:=oZ IE;have HXE:=oZ sZ;have HW:=oZ hlt;clear hX l1 l2 hne hlow hlt Jm s5 IG qN IE sZ u0 u1 f0 f1;go_wp2_with fail;refine ⟨by simp,.inl ⟨_,_,rfl,run_takeDeferred HDX,?_⟩⟩;have gp:=grownBy_putObj' X w6.heap.size (.deferred none);refine ⟨_,E7_ (ty:=263) rfl _ _ (w.heap.size+1) (w.heap.size+1+1) (.slice (some ⟨g4,0,none⟩) s.length c4) (.slice av nv cv) (by rfl) (by rfl) ?lv ?c4 ?c5,?_⟩
  case lv =>
   intro g x hg;have GI:∀ W:World,(isAgg 263).run prog W=.ok false W:=fun W=>by
    unfold isAgg;rw [Sem.run_bind,run_underlying underlying263 W];rfl
   simp [loadVar,Sem.run_bind,GI,hg,Result.andThen,go_sem]
  case c4 =>
   have:=ah (eV HX4 gp (fun e=>by have:=o5 e;have:=HW.out;omega)) 0;simpa using this
  case c5 =>
   have:=ah (eV HX5 gp (fun e=>by have:=o5 e;have:=HW.out;omega)) 0;simpa using this
  refine ⟨g4,c4,_,rfl,HXR.same gp.size (gp.block g4 HXR.lt (fun e=>by have:=o5 e;have:=HW.out;omega)),⟨by rw [HSL.out];exact HG4.2.1,HG4.2.2⟩,ownsRow_putObj HXO _ HDX rfl,jm HXE gp (fun r e=>by cases e;exact Bh)⟩
end Go.Proofs.YtoonaddcfakamaaGreatDoor
namespace Go.Proofs.YtoonaddcfakamaaGreatDoor
open Go.RowKit Go.Proofs.Tryz
theorem Z1l {n:Int} {xss:pM} {x:pN} (h:j3 n xss x=0):de n xss=0/\dM x=0/\(x.length:Int)=n:=by
 unfold j3 at h;by_cases h1:de n xss=0
 ·rw [if_pos h1] at h;by_cases h2:dM x=0
  ·rw [if_pos h2] at h;by_cases h3:(x.length:Int)=n;·exact ⟨h1,h2,h3⟩
   ·rw [if_neg h3] at h;cases h
  ·rw [if_neg h2] at h;exact absurd h h2
 ·rw [if_neg h1] at h;exact absurd h h1
theorem T2_ {n:Int} {xss:pM} (h:de n xss=0):dJ n xss=0/\fv xss=true:=by
 unfold de at h;by_cases h1:dJ n xss=0
 ·rw [if_pos h1] at h;by_cases h2:fv xss=true;·exact ⟨h1,h2⟩
  ·rw [if_neg h2] at h;cases h
 ·rw [if_neg h1] at h;exact absurd h h1
theorem e1_ (n:Int) (xss:pM) (x R M:pN) (v vx:Value) (w:World) (h:cM w v n xss) (hx:aM w vx x) (hE:j3 n xss x=0) (hR:fY xss x xss.length=some (R,M)) (ht:ag w) (hb:3<w.heap.size) :
  Calls prog 231 #[v,vx] w fun e w'=>∃ gr cr vm,e=.returned (.tuple #[.slice (some ⟨gr,0,none⟩) R.length cr,vm])/\aW w' gr 0 R/\(R.length<=cr/\cr<=maxLen)/\w'.ownsRow w.heap.size 92 1 vm M.length (gZ M)/\aA w w':=by
 obtain ⟨h1,h2,h3⟩:=Z1l hE;obtain ⟨l1,l2,l3,l4⟩:=kX (T2_ h1).1;exact e2_ n xss x R M v vx w h hx (by omega) (by omega) (fun y hy=>by have:=(l4 y hy).2;omega) hR ht hb
theorem Z67 (n:Int) (xss:pM) (x R M:pN) (v vx:Value) (w:World) (h:cM w v n xss) (hx:aM w vx x) (hE:j3 n xss x=0) (hR:fY xss x xss.length=some (R,M)) (ht:ag w) (hb:3<w.heap.size) :
  pI 137 #[v,vx] w (.bool (decide (ck R<0))):=by
 have HRE:=oZ (fun W (hW:aA w W)=>e1_ n xss x R M v vx W (h.ext hW) (hx.ext hW) hE hR (ht.ext hW) (ov hb hW.size));obtain ⟨u,rfl,hu⟩:=h;obtain ⟨a,c,rfl,h1,h2,-,hc⟩:=ae.open hu;obtain ⟨ax,cx,rfl,x1,x2,-,-,-⟩:=hx.open;clear hu hc hx hE hR ht hb
 go_enter func137,ntmps137
 obtain ⟨W1,pc,hE1,hs1,hb1⟩:=eC w (.int .i64 n) (.slice a xss.length c);have HB1:=oZ hb1;have HE1:=oZ hE1;obtain ⟨wO,wN,-⟩:=bY hb1;clear hE1 hs1 hb1;go_wp2_with fail;refine (HRE _ HE1).mono ?_;rintro e w3 ⟨gr,cr,vm,rfl,CN,xn,Ij,pS⟩;have HE3:=oZ (HE1.trans pS);have HLD:=oZ (L7_ R gr 0 cr w3 CN xn.1 xn.2);obtain ⟨av,nv,cv,rfl⟩:∃ a n c,vm=.slice a n c:=by
  rcases Ij.2 with ⟨hv,_⟩ | ⟨g,c,_,hv,_⟩
  ·exact ⟨_,_,_,hv⟩
  ·exact ⟨_,_,_,hv⟩
 clear pS HRE CN xn Ij;go_wp2_with fail;refine q_ HLD (HE3.trans) ?_;intro w4 HE4;clear HLD;go_wp2_with fail;go_ret;exact ⟨rfl,HE4⟩
theorem q7_ (n:Int) (xss:pM) (x R M:pN) (v vx:Value) (w:World) (h:cM w v n xss) (hx:aM w vx x) (hE:j3 n xss x=0) (hR:fY xss x xss.length=some (R,M)) (ht:ag w) (hb:3<w.heap.size) :
  pI 122 #[v,vx] w (.tuple #[.bool (decide (ck R<0)),.int .i64 0]):=by
 have HC:=oZ (fun W (hW:aA w W)=>r9_ n xss x v vx W (h.ext hW) (hx.ext hW));rw [hE] at HC;have HH:=oZ (fun W (hW:aA w W)=>Z67 n xss x R M v vx W (h.ext hW) (hx.ext hW) hE hR (ht.ext hW) (ov hb hW.size));obtain ⟨u,rfl,hu⟩:=h;obtain ⟨a,c,rfl,h1,h2,-,hc⟩:=ae.open hu;obtain ⟨ax,cx,rfl,x1,x2,-,-,-⟩:=hx.open;obtain ⟨bb,hbb⟩:=pK (decide (ck R<0));rw [hbb] at HH |-;clear hu hc hx hE hR ht hb hbb
 go_enter func122,ntmps122
 obtain ⟨W1,pc,hE1,hs1,hb1⟩:=eC w (.int .i64 n) (.slice a xss.length c);have HB1:=oZ hb1;have HE1:=oZ hE1;obtain ⟨wO,wN,-⟩:=bY hb1;clear hE1 hs1 hb1;go_wp2_with fail;refine (HC _ HE1).mono ?_;rintro e w2 ⟨rfl,hE2⟩;have HE2:=oZ (HE1.trans hE2);have d0:=hE2.cell wO;have d1:=hE2.cell wN;clear hE2 HC;go_wp2_with fail;refine q_ (HH _ HE2) (HE2.trans) ?_;intro w3 HE3;clear HH;go_wp2_with fail;go_ret2;exact ⟨rfl,HE3⟩
def eI (F cols:Nat) (m:pM):Option (pM) :=
 if bH cols m=true then
  match dj (m.length+cols) F (m.length+cols) (bK cols m) with
  | none=>none
  | some h=>if bH (m.length+cols) h=true then dj cols F cols (dp m.length h) else none
 else none
theorem n_ (F cols:Nat) (m:pM) (v:Value) (base:Nat) (w:World) (R:pM) (hM:cO w base v m) (hk:eI F cols m=some R)
  (hm:m.length+cols<=1000) (qU:1<=cols) (ht:ag w) (hb:3<w.heap.size) :
  Calls prog 215 #[v,.int .i64 cols] w fun e w'=>∃ a c,e=.returned (.slice a R.length c)/\cO w' w.heap.size (.slice a R.length c) R/\aA w w':=by
 unfold eI at hk;by_cases h1:bH cols m=true
 ·rw [if_pos h1] at hk;cases h2:dj (m.length+cols) F (m.length+cols) (bK cols m) with
  | none=>rw [h2] at hk;cases hk
  | some h =>
   rw [h2] at hk;simp only at hk;by_cases h3:bH (m.length+cols) h=true
   ·rw [if_pos h3] at hk;refine (g3_ F cols m v base w R hM h1 h h2 h3 hk hm qU ht hb).mono fun e w' hh=>?_;obtain ⟨v',he,hR,hE⟩:=hh;obtain ⟨a,c,rfl,-,-,-⟩:=hR.open;exact ⟨a,c,he,hR,hE⟩
   ·rw [if_neg h3] at hk;cases hk
 ·rw [if_neg h1] at hk;cases hk
theorem P0_ (xss:pM) (v:Value) (w:World) (h:aw w v xss) (hlen:xss.length<=1000) (hrow:∀ xs∈xss,xs.length<=1000) (ht:ag w) :
  Calls prog 131 #[v] w fun e w'=>∃ a c,e=.returned (.slice a xss.length c)/\cO w' w.heap.size (.slice a xss.length c) xss/\aA w w':=by
 refine (A1_ xss v w h hlen hrow ht).mono fun e w' hh=>?_;obtain ⟨v',he,hR,hE⟩:=hh;obtain ⟨a,c,rfl,-,-,-⟩:=hR.open;exact ⟨a,c,he,hR,hE⟩
def LsF (cols:Nat) (m:pM) (w w':World) (A E:Int) (a:Option Addr) (k c:Nat):Prop :=
 (((m.all fun r=>r.all dX)=true)->A=cols/\E=0/\aZ w' (·<w.heap.size) (fun W=>aw W (.slice a k c) m))/\(¬ ((m.all fun r=>r.all dX)=true)->A=0/\E=4/\a=none/\k=0/\c=0)
theorem ew.open {cols:Nat} {m:pM} {w w':World} {e:Ending} (h:ew cols m w e w'):∃ A E a k c,e=.returned (.tuple #[.agg #[.int .i64 A,.slice a k c],.int .i64 E])/\LsF cols m w w' A E a k c/\aA w w':=by
 obtain ⟨h1,h2⟩:=h;by_cases hf:(m.all fun r=>r.all dX)=true
 ·rw [if_pos hf] at h1;obtain ⟨v,rfl,hs⟩:=h1;obtain ⟨a,c,rfl,-,-,-,-⟩:=ae.open hs.now;exact ⟨_,_,a,_,c,rfl,⟨fun _=>⟨rfl,rfl,hs⟩,fun hn=>absurd hf hn⟩,h2⟩
 ·rw [if_neg hf] at h1;exact ⟨0,4,none,0,0,h1,⟨fun hn=>absurd hn hf,fun _=>⟨rfl,rfl,rfl,rfl,rfl⟩⟩,h2⟩
theorem LsF.close {cols:Nat} {m:pM} {w w1 w' W:World} {A E:Int} {a:Option Addr} {k c:Nat} (h:LsF cols m w1 w' A E a k c) (hE:aA w W) (hw:w.heap.size<=w1.heap.size) (hg:∀ S:Nat->Prop,(∀ b,b<w1.heap.size->S b)->aH S w' W):ew cols m w (.returned (.tuple #[.agg #[.int .i64 A,.slice a k c],.int .i64 E])) W:=by
 unfold ew;by_cases hf:(m.all fun r=>r.all dX)=true
 ·rw [if_pos hf];obtain ⟨rfl,rfl,hs⟩:=h.1 hf;exact ⟨⟨_,rfl,hs.grow (hg _ fun b hb=>hb) fun b hb=>.inl (ov hb hw)⟩,hE⟩
 ·rw [if_neg hf];obtain ⟨rfl,rfl,rfl,rfl,rfl⟩:=h.2 hf;exact ⟨rfl,hE⟩
theorem Z5S (n F:Nat) (xss:pM) (R:pM) (hk:eI F n xss=some R) (v:Value) (w:World) (h:cM w v n xss) (hE:de n xss=0) (hn:1<=n) (rC:∀ r∈R,r.all bU=true) (hl:∀ r∈R,r.length<=1000) (hm:R.length<=1000) (pT:b9 w) (hb:3<w.heap.size) :
  Calls prog 184 #[v] w (ew n R w):=by
 obtain ⟨l1,l2,l3,l4⟩:=kX (T2_ hE).1;have HC:=oZ (fun W (hW:aA w W)=>oA n xss v W (h.ext hW));rw [hE] at HC;obtain ⟨u,rfl,hu⟩:=h;have HLO:=oZ (fun W (hW:aA w W)=>P0_ xss u W (hu.ext hW) (by omega) (fun xs hx=>by have:=(l4 xs hx).2;omega) (pT.pow.ext hW));have HK1:=oZ (fun W V base (hM:cO W base V xss) (hW:aA w W)=>n_ F n xss V base W R hM hk (by omega) hn (pT.pow.ext hW) (ov hb hW.size));have HS:=oZ (fun W V base (hM:cO W base V R) (hW:aA w W)=>U8_ n R V base W hM rC hl hm (by omega) (pT.ext hW));obtain ⟨a,c,rfl,h1,h2,-,hc⟩:=ae.open hu;clear hu hc hE hk rC hl hm pT l1 l2 l3 l4 hb
 go_enter func184,ntmps184
 obtain ⟨W1,pc,hE1,hs1,hb1⟩:=eC w (.int .i64 n) (.slice a xss.length c);obtain ⟨W2,qv,hE2,hs2,hb2⟩:=eC W1 (.int .i64 0) (.slice none 0 0);have HB1:=oZ (aF hb1 hE2);have HE2:=oZ (hE1.trans hE2);have z1:W1.heap.size=w.heap.size+1:=hs1;rw [z1] at hb2;have HB2:=oZ hb2;clear hE1 hE2 hs1 hs2 hb1 hb2;obtain ⟨wO,wN,-⟩:=bY HB1;go_wp2_with fail;refine (HC _ HE2).mono ?_;rintro e w1 ⟨rfl,pS⟩;have HE3:=oZ (HE2.trans pS);have g0:=pS.cell wO;have g1:=pS.cell wN;have HB3:=oZ (aF HB2 pS);have tQ:Hid (w.heap.size+1<w1.heap.size):=cG HB3;clear pS HC wO wN HB1 HB2 pc qv z1
 go_upto_region 4 with fail
 refine iq (fun w'=>w'.cell? ⟨w.heap.size,0,none⟩=some (.int .i64 n)/\w'.cell? ⟨w.heap.size,1,none⟩=some (.slice a xss.length c)/\Hid (aA w1 w')) 11 (by kernel_rfl) ⟨(aA.drew w1).cell g0,(aA.drew w1).cell g1,aA.drew w1⟩ (fun pO=>?_);refine rA [0,1,3,4,6,7] ?_
 iterate 6 ((first|(refine rL (v:=?_) (by rfl) (Or.inl ⟨by rfl,?_⟩) ?_;rotate_left;·((intro w' qM);(try dsimp only at qM);(try go_simp);(try with_reducible rfl)))|(refine rW (v:=?_) (by rfl) (Or.inl ⟨by rfl,?_⟩) ?_;rotate_left;·((intro w');(try go_simp);(try with_reducible rfl))));(try simp only [Act.put,aQ,aR,aS]))
 refine rE ?_;refine dH 2 (by kernel_rfl) rfl (fun K hK=>?_);go_simp
 (go_at_call 131;refine (HLO _ (HE3.trans pO.2.2)).mono ?_)
 rintro e wx ⟨a2,c2,rfl,rk,pY⟩;have HM2:=oZ rk;go_wp2_with fail;refine hK _ _ ⟨(pY).cell pO.1,(pY).cell pO.2.1,aA.trans pO.2.2 (pY)⟩ (fun pO=>?_);clear hK K
 (try simp only [Act.put,aQ,aR,aS])
 refine dH 5 (by kernel_rfl) rfl (fun K hK=>?_);go_simp
 (go_at_call 215;refine (HK1 _ _ _ HM2 (HE3.trans pO.2.2)).mono ?_)
 rintro e wy ⟨a3,c3,rfl,xx,pY⟩;have HM3:=oZ xx;go_wp2_with fail;refine hK _ _ ⟨(pY).cell pO.1,(pY).cell pO.2.1,aA.trans pO.2.2 (pY)⟩ (fun pO=>?_);clear hK K
 (try simp only [Act.put,aQ,aR,aS])
 refine dH 8 (by kernel_rfl) rfl (fun K hK=>?_);go_simp
 (go_at_call 133;refine (HS _ _ _ HM3 (HE3.trans pO.2.2)).mono ?_)
 rintro e wz tI;obtain ⟨AA,EE,ar,kr,cr,rfl,C7,pY⟩:=tI.open;have zB:Hid (aA w1 wy):=pO.2.2.out;have HLF:=oZ C7;have HXZ:=oZ (zB.trans pY);have HZZ:=oZ pY;have hr:=aF HB3 HXZ;obtain ⟨r0,r1,rf⟩:=bY hr;have f0:=rf 0;have f1:=rf 1;have HKA:=oZ (fU hr (.int .i64 AA) (.slice ar kr cr));clear rf hr C7;go_wp2_with fail;refine hK _ _ ⟨(pY).cell pO.1,(pY).cell pO.2.1,aA.trans pO.2.2 (pY)⟩ (fun pO=>?_);clear hK K
 (try simp only [Act.put,aQ,aR,aS])
 refine rA [9,10] ?_
 iterate 2 ((refine rW (v:=?_) (by rfl) (Or.inl ⟨by rfl,?_⟩) ?_;rotate_left;·((intro w');(try go_simp);(try with_reducible rfl)));(try simp only [Act.put,aQ,aR,aS]))
 refine rE ?_;refine D4_ 11 (by kernel_rfl) (by kernel_rfl) rfl (fun K hK=>?_);go_simp;refine hK _ _ ?_;clear hK K
 (try simp only [Act.put,aQ,aR,aS])
 refine fL 12 (by kernel_rfl) (by kernel_rfl) (by kernel_rfl) rfl (fun K hK=>?_);go_simp;refine hK _ _ ?_;clear hK K
 (try simp only [Act.put,aQ,aR,aS])
 go_wp2_with fail;refine bodyPost_ret (jz (by rfl) _ _ (w.heap.size+1) 76 #[.int .i64 AA,.slice ar kr cr] (0,0) _ (by rfl) HKA underlying76 (by rfl) (by kernel_rfl)) (by rfl) ?_;have Az:Hid (w.heap.size+1<wy.heap.size):=ov tQ zB.size;refine HLF.close (ei (HE3.trans HXZ) (by omega) _ _) (ow (by omega) (Nat.le_of_lt Az)) (fun S hS=>aH.setCell (aH.setCell (aH.refl _ _) (hS _ Az) 0 _) (hS _ Az) 1 _)
theorem Z6A (n F:Nat) (xss:pM) (K R:pM) (qt:eI F n xss=some K) (hk:eI F n K=some R) (Gg:K.length<=900) (v:Value) (w:World) (h:cM w v n xss) (hE:de n xss=0) (hn:1<=n) (rC:∀ r∈R,r.all bU=true) (hl:∀ r∈R,r.length<=1000) (hm:R.length<=1000) (pT:b9 w) (hb:3<w.heap.size) :
  Calls prog 121 #[v] w (ew n R w):=by
 obtain ⟨l1,l2,l3,l4⟩:=kX (T2_ hE).1;have HC:=oZ (fun W (hW:aA w W)=>oA n xss v W (h.ext hW));rw [hE] at HC;obtain ⟨u,rfl,hu⟩:=h;have HLO:=oZ (fun W (hW:aA w W)=>P0_ xss u W (hu.ext hW) (by omega) (fun xs hx=>by have:=(l4 xs hx).2;omega) (pT.pow.ext hW));have HK1:=oZ (fun W V base (hM:cO W base V xss) (hW:aA w W)=>n_ F n xss V base W K hM qt (by omega) hn (pT.pow.ext hW) (ov hb hW.size));have HK2:=oZ (fun W V base (hM:cO W base V K) (hW:aA w W)=>n_ F n K V base W R hM hk (by omega) hn (pT.pow.ext hW) (ov hb hW.size));have HS:=oZ (fun W V base (hM:cO W base V R) (hW:aA w W)=>U8_ n R V base W hM rC hl hm (by omega) (pT.ext hW));obtain ⟨a,c,rfl,h1,h2,-,hc⟩:=ae.open hu;clear hu hc hE hk rC hl hm pT l1 l2 l3 l4 hb qt Gg
 go_enter func121,ntmps121
 obtain ⟨W1,pc,hE1,hs1,hb1⟩:=eC w (.int .i64 n) (.slice a xss.length c);obtain ⟨W2,qv,hE2,hs2,hb2⟩:=eC W1 (.int .i64 0) (.slice none 0 0);have HB1:=oZ (aF hb1 hE2);have HE2:=oZ (hE1.trans hE2);have z1:W1.heap.size=w.heap.size+1:=hs1;rw [z1] at hb2;have HB2:=oZ hb2;clear hE1 hE2 hs1 hs2 hb1 hb2;obtain ⟨wO,wN,-⟩:=bY HB1;go_wp2_with fail;refine (HC _ HE2).mono ?_;rintro e w1 ⟨rfl,pS⟩;have HE3:=oZ (HE2.trans pS);have g0:=pS.cell wO;have g1:=pS.cell wN;have HB3:=oZ (aF HB2 pS);have tQ:Hid (w.heap.size+1<w1.heap.size):=cG HB3;clear pS HC wO wN HB1 HB2 pc qv z1
 go_upto_region 4 with fail
 refine iq (fun w'=>w'.cell? ⟨w.heap.size,0,none⟩=some (.int .i64 n)/\w'.cell? ⟨w.heap.size,1,none⟩=some (.slice a xss.length c)/\Hid (aA w1 w')) 14 (by kernel_rfl) ⟨(aA.drew w1).cell g0,(aA.drew w1).cell g1,aA.drew w1⟩ (fun pO=>?_);refine rA [0,1,3,4,6,7,9,10] ?_
 iterate 8 ((first|(refine rL (v:=?_) (by rfl) (Or.inl ⟨by rfl,?_⟩) ?_;rotate_left;·((intro w' qM);(try dsimp only at qM);(try go_simp);(try with_reducible rfl)))|(refine rW (v:=?_) (by rfl) (Or.inl ⟨by rfl,?_⟩) ?_;rotate_left;·((intro w');(try go_simp);(try with_reducible rfl))));(try simp only [Act.put,aQ,aR,aS]))
 refine rE ?_;refine dH 2 (by kernel_rfl) rfl (fun K hK=>?_);go_simp
 (go_at_call 131;refine (HLO _ (HE3.trans pO.2.2)).mono ?_)
 rintro e wx ⟨a2,c2,rfl,rk,pY⟩;have HM2:=oZ rk;go_wp2_with fail;refine hK _ _ ⟨(pY).cell pO.1,(pY).cell pO.2.1,aA.trans pO.2.2 (pY)⟩ (fun pO=>?_);clear hK K
 (try simp only [Act.put,aQ,aR,aS])
 refine dH 5 (by kernel_rfl) rfl (fun K hK=>?_);go_simp
 (go_at_call 215;refine (HK1 _ _ _ HM2 (HE3.trans pO.2.2)).mono ?_)
 rintro e wy ⟨a3,c3,rfl,xx,pY⟩;have HM3:=oZ xx;go_wp2_with fail;refine hK _ _ ⟨(pY).cell pO.1,(pY).cell pO.2.1,aA.trans pO.2.2 (pY)⟩ (fun pO=>?_);clear hK K
 (try simp only [Act.put,aQ,aR,aS])
 refine dH 8 (by kernel_rfl) rfl (fun K hK=>?_);go_simp
 (go_at_call 215;refine (HK2 _ _ _ HM3 (HE3.trans pO.2.2)).mono ?_)
 rintro e wv ⟨a4,c4,rfl,Be,pY⟩;have HM4:=oZ Be;go_wp2_with fail;refine hK _ _ ⟨(pY).cell pO.1,(pY).cell pO.2.1,aA.trans pO.2.2 (pY)⟩ (fun pO=>?_);clear hK K
 (try simp only [Act.put,aQ,aR,aS])
 refine dH 11 (by kernel_rfl) rfl (fun K hK=>?_);go_simp
 (go_at_call 133;refine (HS _ _ _ HM4 (HE3.trans pO.2.2)).mono ?_)
 rintro e wz tI;obtain ⟨AA,EE,ar,kr,cr,rfl,C7,pY⟩:=tI.open;have zB:Hid (aA w1 wv):=pO.2.2.out;have HLF:=oZ C7;have HXZ:=oZ (zB.trans pY);have HZZ:=oZ pY;have hr:=aF HB3 HXZ;obtain ⟨r0,r1,rf⟩:=bY hr;have f0:=rf 0;have f1:=rf 1;have HKA:=oZ (fU hr (.int .i64 AA) (.slice ar kr cr));clear rf hr C7;go_wp2_with fail;refine hK _ _ ⟨(pY).cell pO.1,(pY).cell pO.2.1,aA.trans pO.2.2 (pY)⟩ (fun pO=>?_);clear hK K
 (try simp only [Act.put,aQ,aR,aS])
 refine rA [12,13] ?_
 iterate 2 ((refine rW (v:=?_) (by rfl) (Or.inl ⟨by rfl,?_⟩) ?_;rotate_left;·((intro w');(try go_simp);(try with_reducible rfl)));(try simp only [Act.put,aQ,aR,aS]))
 refine rE ?_;refine D4_ 14 (by kernel_rfl) (by kernel_rfl) rfl (fun K hK=>?_);go_simp;refine hK _ _ ?_;clear hK K
 (try simp only [Act.put,aQ,aR,aS])
 refine fL 15 (by kernel_rfl) (by kernel_rfl) (by kernel_rfl) rfl (fun K hK=>?_);go_simp;refine hK _ _ ?_;clear hK K
 (try simp only [Act.put,aQ,aR,aS])
 go_wp2_with fail;refine bodyPost_ret (jz (by rfl) _ _ (w.heap.size+1) 76 #[.int .i64 AA,.slice ar kr cr] (0,0) _ (by rfl) HKA underlying76 (by rfl) (by kernel_rfl)) (by rfl) ?_;have Az:Hid (w.heap.size+1<wv.heap.size):=ov tQ zB.size;refine HLF.close (ei (HE3.trans HXZ) (by omega) _ _) (ow (by omega) (Nat.le_of_lt Az)) (fun S hS=>aH.setCell (aH.setCell (aH.refl _ _) (hS _ Az) 0 _) (hS _ Az) 1 _)
theorem mg {F F' cols:Nat} {m R:pM} (hl:F<=F') (h:eI F cols m=some R):eI F' cols m=some R:=by
 unfold eI at h |-;by_cases h1:bH cols m=true
 ·rw [if_pos h1] at h |-;cases h2:dj (m.length+cols) F (m.length+cols) (bK cols m) with
  | none=>rw [h2] at h;cases h
  | some x =>
   rw [h2] at h;rw [lI hl h2];simp only at h |-;by_cases h3:bH (m.length+cols) x=true;·rw [if_pos h3] at h |-;exact lI hl h
   ·rw [if_neg h3] at h;cases h
 ·rw [if_neg h1] at h;cases h
theorem n9 (n N b1 b2:Nat) (m:pM) (hw:∀ x∈m,x.length=n) (hN:∀ x∈m,aT N x) (h1:1<=N) (hb1:N<=10^b1) (hb2:n*ek N n<=10^b2) (s1:(gN n b1 0).1+1<=400000000) (s2:(gN n b1 0).2+1<=400000000) (s3:(gN n b2 0).1+1<=400000000) (s4:(gN n b2 0).2+1<=400000000) :
  ∃ F T qs,eI F n m=some T/\a_ n T qs/\(∀ v,Sp n (aG 0 T) v↔cV n m v)/\(∀ x∈T,aT (n*ek N n) x/\x.length=n)/\T.length<=n /\
   (∀ ms,a_ n m ms->T.length+m.length=n)/\(∀ v,v.length=n->(∀ u,cV n m u->bD u v n=0)->∃ D:Int,D≠0/\Sp n (aG 0 m) (bX D v)):=by
 have Ae:ak n m:=fun i hi=>hw _ (eM hi);have hb1':∀ x∈m,aT (10^b1) x:=fun x hx=>(hN x hx).mono hb1
 obtain ⟨F1,h,ps,f1,f2,f3,-,f5⟩:=nw (m.length+n) n b1 (bK n m) (fun x hx=>by
   obtain ⟨i,hi,rfl⟩:=jN hx;exact l_ n m i hi) (Z44 (Nat.pos_of_ne_zero (by simp)) hb1') (.inl (by rw [iA];exact oz _)) s1 s2
 rw [iA] at f2;have hn:=Z45 f3 f5;have FZ:h.length=n:=by omega
 have hbd:=Q3_ (N:=N) f3 (l_ n m) (fun i hi=>Z44 h1 hN _ (eM hi)) f5;rw [FZ] at hbd;obtain ⟨d,d1,d2,d3⟩:=Z3k f3 m.length;have hT:=J2_ f3 d1 d2 d3;have GR:((h.drop d).map (·.drop m.length)).length=n-d:=by simp [FZ]
 have GS:∀ x∈(h.drop d).map (·.drop m.length),aT (n*ek N n) x/\x.length=n:=by
  intro x hx;obtain ⟨i,hi,rfl⟩:=jN hx;refine ⟨?_,hT.1 i hi⟩;rw [GR] at hi;rw [gw (by omega)];exact fun y hy=>hbd (d+i) (by omega) y (List.mem_of_mem_drop hy)
 obtain ⟨F2,T',qs',g1,g2,g3,-,g5⟩:=nw n n b2 ((h.drop d).map (·.drop m.length)) (fun x hx=>(GS x hx).2) (fun x hx=>(GS x hx).1.mono hb2) (.inr (oz _)) s3 s4;have C3:T'=(h.drop d).map (·.drop m.length):=mb g3 hT g5.symm;refine ⟨F1+F2,_,_,?_,hT,Z5z f3 f5 d1 d2 d3,GS,by rw [GR];omega,fun ms yT=>?_,fun v hv hz=>Z5R Ae f3 f5 d1 d2 d3 hv hz⟩
 ·unfold eI;have hgl:=mY n b1 0;rw [if_pos (Z3g hw hb1' (by omega)),lI (Nat.le_add_right F1 F2) f1];simp only;have hgl2:=mY n b2 0
  rw [if_pos (Z3g (b:=b2) (fun x hx=>by obtain ⟨i,hi,rfl⟩:=jN hx;exact f3.1 i hi) (fun x hx=>by
   obtain ⟨i,hi,rfl⟩:=jN hx;exact (hbd i (by omega)).mono hb2) (by omega)),i2_ f3 d2 d3,lI (Nat.le_add_left F2 F1) g1,C3]
 ·have:=Z4Q yT f3 f5 d1 d2 d3;rw [GR];omega
structure Z7n (n F:Nat) (R A S:pM):Prop where
 fA:∃ qa,a_ n A qa
 fS:∃ ss,a_ n S ss
 spA:∀ v,Sp n (aG 0 A) v↔cV n R v
 spS:∀ v,Sp n (aG 0 S) v↔fe n R v
 kR:eI F n R=some A
 kA:eI F n A=some S
 kS:eI F n S=some A
 rR:A.length+R.length=n
 rS:A.length+S.length=n
 bA:∀ x∈A,aT 629856 x/\x.length=n
 bS:∀ x∈S,aT 629856 x/\x.length=n
theorem oB {k:Nat} (hk:k<=4):k*ek 9 k<=629856:=by
 have hc:k=0\/k=1\/k=2\/k=3\/k=4:=by omega
 rcases hc with h | h | h | h | h <;> rw [h] <;> decide
theorem Z7E {n:Nat} (hn:n<=4):n*ek 629856 n<=10^26:=by
 have hc:n=0\/n=1\/n=2\/n=3\/n=4:=by omega
 rcases hc with h | h | h | h | h <;> rw [h] <;> decide
theorem gsz {n:Nat} (hn:n<=4):(gN n 6 0).1+1<=400000000/\(gN n 6 0).2+1<=400000000/\(gN n 26 0).1+1<=400000000/\(gN n 26 0).2+1<=400000000:=by
 have hc:n=0\/n=1\/n=2\/n=3\/n=4:=by omega
 rcases hc with h | h | h | h | h <;> rw [h] <;> decide
theorem H1_ {n:Nat} {R:pM} {ps:Nat->Nat} (h:a_ n R ps):R.length<=n:=by
 have key:∀ i,i<R.length->i<=ps i:=by
  intro i
  induction i with
  | zero=>intro _;omega
  | succ i ih=>intro hi;have h1:=ih (by omega);have h2:=h.2.mono i (i+1) (by omega) hi;omega
 rcases Nat.eq_zero_or_pos R.length with h0 | h0;·omega
 ·have h1:=key (R.length-1) (by omega);have h2:=h.2.lt (R.length-1) (by omega);omega
theorem Z3K (v:pN):bX 1 v=v:=by
 unfold bX;rw [List.map_congr_left (g:=id) (fun x _=>by simp)];simp
theorem Z5L {n:Nat} {m:pM} (hm:ak n m) {v:pN} (h:Sp n (aG 0 m) v):fe n m v :=
 ⟨h.len (cT hm),1,by decide,by rw [Z3K];exact h⟩
theorem Z1R {n:Nat} {m:pM} (hm:ak n m) {v u:pN} (h:fe n m v) (hu:cV n m u):bD v u n=0:=by
 obtain ⟨-,D,hD,hs⟩:=h;have:=mJ hm hs hu;rw [fP,nk,fP] at this;rcases Int.mul_eq_zero.1 this with h | h;·exact absurd h hD
 ·exact h
theorem B4_ {n:Nat} {R T:pM} {ps qs:Nat->Nat} (hR:a_ n R ps) (hT:a_ n T qs) (h:∀ v,Sp n (aG 0 R) v↔Sp n (aG 0 T) v):R=T :=
 mb hR hT ⟨fun r hr=>(h r).1 (.mem hr),fun r hr=>(h r).2 (.mem hr)⟩
theorem Z3o {n:Nat} {m R:pM} {ps:Nat->Nat} (hn:n<=4) (hw:∀ x∈m,x.length=n) (h9:∀ x∈m,aT 9 x) (hR:a_ n R ps) (hs:bT n (aG 0 m) (aG 0 R)):∃ F A S,Z7n n F R A S:=by
 have Ae:ak n m:=fun i hi=>hw _ (eM hi);have hg:=gsz hn;have Lk:∀ x∈R,aT 629856 x:=fun x hx=>by
  obtain ⟨i,hi,rfl⟩:=jN hx;exact (Q3_ (N:=9) hR Ae (fun j hj=>h9 _ (eM hj)) hs i hi).mono (oB (by have:=H1_ hR;omega))
 have K9:∀ x∈R,x.length=n:=fun x hx=>by obtain ⟨i,hi,rfl⟩:=jN hx;exact hR.1 i hi
 obtain ⟨F1,A,qa,a1,a2,a3,-,a5,a6,a7⟩:=n9 n 629856 6 26 R K9 Lk (by decide) (by decide) (Z7E hn) hg.1 hg.2.1 hg.2.2.1 hg.2.2.2;obtain ⟨-,A',qa',-,b2,b3,b4,-,-,-⟩:=n9 n 9 6 26 m hw h9 (by decide) (by decide) (ow (oB hn) (by decide)) hg.1 hg.2.1 hg.2.2.1 hg.2.2.2;have MK:A=A':=B4_ a2 b2 fun v=>by rw [a3,b3];exact (Z1Q Ae hR.1 hs v).symm
 have GH:∀ x∈A,aT 629856 x/\x.length=n:=fun x hx=>by
  have:=b4 x (by rw [<- MK];exact hx);exact ⟨this.1.mono (oB hn),this.2⟩
 obtain ⟨F2,S,ss,c1,c2,c3,-,c5,c6,c7⟩:=n9 n 629856 6 26 A (fun x hx=>(GH x hx).2) (fun x hx=>(GH x hx).1) (by decide) (by decide) (Z7E hn) hg.1 hg.2.1 hg.2.2.1 hg.2.2.2;have tc:∀ v,Sp n (aG 0 S) v↔fe n R v:=by
  intro v;rw [c3];constructor
  ·intro hv;obtain ⟨D,hD,h⟩:=a7 v hv.1 fun u hu=>mJ a2.1 ((a3 u).2 hu) hv;exact ⟨hv.1,D,hD,h⟩
  ·intro hv;refine ⟨hv.1,fun i hi=>?_⟩;rw [fP];exact Z1R hR.1 hv ((a3 _).1 (.mem (az (Nat.zero_le i) hi)))
 have GG:∀ x∈S,aT 629856 x/\x.length=n:=fun x hx=>by
  obtain ⟨i,hi,rfl⟩:=jN hx;refine ⟨(T6_ (N:=9) (m:=m) c2 (fun j hj=>h9 _ (eM hj)) (fun r hr=>(tc r).2 (Z5L hR.1 (hs.1 r hr))) (N7_ c2 Ae fun j hj=>?_) i hi).mono (oB (by omega)),c2.1 i hi⟩;obtain ⟨-,D,hD,h⟩:=(tc _).1 (.mem (az (Nat.zero_le j) hj));exact ⟨D,hD,(hs.iff _).2 h⟩
 obtain ⟨F3,B,bs,d1,d2,d3,-,d5,d6,d7⟩:=n9 n 629856 6 26 S (fun x hx=>(GG x hx).2) (fun x hx=>(GG x hx).1) (by decide) (by decide) (Z7E hn) hg.1 hg.2.1 hg.2.2.1 hg.2.2.2;have MH:B=A:=B4_ d2 a2 fun v=>by
  rw [d3,a3];constructor
  ·intro hv;refine ⟨hv.1,fun i hi=>?_⟩;have:=mJ c2.1 ((tc _).2 (Z5L hR.1 (.mem (az (Nat.zero_le i) hi)))) hv;exact this
  ·intro hv;refine ⟨hv.1,fun i hi=>?_⟩;exact Z1R hR.1 ((tc _).1 (.mem (az (Nat.zero_le i) hi))) hv
 rw [MH] at d1 d6;exact ⟨F1+F2+F3,A,S,⟨qa,a2⟩,⟨ss,c2⟩,a3,tc,mg (by omega) a1,mg (by omega) c1,mg (by omega) d1,a6 ps hR,d6 ss c2,GH,GG⟩
end Go.Proofs.YtoonaddcfakamaaGreatDoor
namespace Go.Proofs.YtoonaddcfakamaaGreatDoor
open Go.RowKit Go.Shelf Go.Proofs.Tryz
attribute [local go_sem] Oper.semAt_some
def ln (x:pN):Int:=x.getD (gi x) 0
def gl (m:pM):Nat->Option Int
 | 0=>some 1
 | i+1=>match gl m i with
  | none=>none
  | some p=>if 0<=ck (aD m i)/\fb p=true/\fb (ln (aD m i))=true then some (p*ln (aD m i)) else none
theorem P8_ {m:pM} {i:Nat} {y:Int} (h:gl m (i+1)=some y):∃ p,gl m i=some p/\0<=ck (aD m i)/\fb p=true/\fb (ln (aD m i))=true/\y=p*ln (aD m i):=by
 unfold gl at h;cases hp:gl m i with
 | none=>rw [hp] at h;cases h
 | some p =>
  rw [hp] at h;simp only at h;by_cases hc:0<=ck (aD m i)/\fb p=true/\fb (ln (aD m i))=true
  ·rw [if_pos hc] at h;exact ⟨p,rfl,hc.1,hc.2.1,hc.2.2,(o5 h).symm⟩
  ·rw [if_neg hc] at h;cases h
theorem z7_ {m:pM} {n:Nat}:∀ {y},gl m n=some y->∀ i,i<=n->∃ z,gl m i=some z:=by
 induction n with
 | zero =>
  intro y h i hi;obtain rfl:i=0:=by omega
  exact ⟨_,h⟩
 | succ n ih =>
  intro y h i hi;by_cases hn:i=n+1;·subst hn;exact ⟨_,h⟩
  ·obtain ⟨p,hp,-⟩:=P8_ h;exact ih hp i (by omega)
def Z6R (Q:Exit->Act->World->Prop):Exit->Act->World->Prop
 | .normal,a,w=>Q .normal a w
 | _,_,_=>False
theorem Z6N {P:Program} {c:Code} {Q:Exit->Act->World->Prop} {a:Act} {w:World} (h:c.wp P (Z6R Q) a w):c.wp P Q a w :=
 wp_mono h fun e a w hh=>by
  cases e with
  | normal=>exact hh
  | _=>exact hh.elim
def Z7j (q:Int) (w:World) (e:Ending) (w':World):Prop:=(if dX q=true then e=.returned (.tuple #[.int .i64 q,.int .i64 0]) else e=.returned (.tuple #[.int .i64 0,.int .i64 4]))/\aA w w'
theorem aH.more {bO:Nat} {w5 W W':World} {row:Option Nat} (h:aH (·=bO) w5 W) (hg:W.grownBy W' row) (hr:∀ r,row=some r->w5.heap.size<=r):aH (·=bO) w5 W' :=
 ⟨hg.os.trans h.os,hg.tape.trans h.tape,hg.output.trans h.output,ow h.size hg.size,fun k hk hn=>(hg.block k (ov hk h.size) (fun e=>by have:=hr k e.symm;omega)).trans (h.block k hk hn)⟩
theorem cO.keep {w w6 w':World} {base:Nat} {v:Value} {R:pM} (h:cO w base v R) (he:aA w w6) (hg:aH (·=w.heap.size) w6 w'):cO w' base v R:=by
 obtain ⟨a,c,h1,h2,h3,h4⟩:=h;refine ⟨a,c,h1,h2,h3,?_⟩;rcases h4 with h4 | ⟨g,tags,h5,h6,h7⟩
 ·exact .inl h4
 ·refine .inr ⟨g,tags,h5,(h6.ext he).same hg.size (fun b ql=>hg.block b ((h6.ext he).blt ql) (fun e=>?_)),h7⟩;have:=h6.blt ql;omega
theorem Z2B (n F:Nat) (xss K R:pM) (P Q:Int) (v:Value) (w:World) (h:cM w v n xss) (hE:de n xss=0) (hn:1<=n) (qt:eI F n xss=some K) (hk:eI F n K=some R) (Gg:K.length<=900)
  (hP:gl xss xss.length=some P) (hQ:gl R R.length=some Q) (JU:bU P=true) (JS:bU Q=true) (D7:Q≠0) (hq:bU (aL P Q)=true) (hRl:R.length<=900) (pT:b9 w) (hb:3<w.heap.size) :
  Calls prog 120 #[v] w (Z7j (aL P Q) w):=by
 obtain ⟨l1,l2,l3,l4⟩:=kX (T2_ hE).1;have HC:=oZ (fun W (hW:aA w W)=>oA n xss v W (h.ext hW));rw [hE] at HC;obtain ⟨u,rfl,hu⟩:=h;have HLO:=oZ (fun W (hW:aA w W)=>P0_ xss u W (hu.ext hW) (by omega) (fun xs hx=>by have:=(l4 xs hx).2;omega) (pT.pow.ext hW));have HK1:=oZ (fun W V base (hM:cO W base V xss) (hW:aA w W)=>n_ F n xss V base W K hM qt (by omega) hn (pT.pow.ext hW) (ov hb hW.size));have HK2:=oZ (fun W V base (hM:cO W base V K) (hW:aA w W)=>n_ F n K V base W R hM hk (by omega) hn (pT.pow.ext hW) (ov hb hW.size));have HPV:=oZ (fun W (hW:aA w W)=>z5_ n xss u W (hu.ext hW));have HU:=oZ hu;have HLIB:=oZ pT;have HP:=oZ hP;have HQ:=oZ hQ;have HPS:=oZ JU;have HQS:=oZ JS;have HQ0:=oZ D7;have HSQ:=oZ hq;have HRL:=oZ hRl;have HB:=oZ hb;have HL4:=oZ (fun x (hx:x∈xss)=>show x.length<=1000 by have:=(l4 x hx).2;omega);obtain ⟨a,c,rfl,h1,h2,-,hc⟩:=ae.open hu;clear hu hc hE hk pT l1 l2 l3 l4 hb qt Gg hP hQ JU JS D7 hq hRl;refine (callsIn_wide (n:=9)).1 ?_;refine callsIn_of_wp_marks func120 rfl trivial ?_ rfl;simp only [ntmps120,List.size_toArray,List.length_cons,List.length_nil,Nat.reduceAdd,Nat.reduceSub,Array.replicate_succ,Array.replicate_zero,List.push_toArray,List.append_toArray,List.nil_append,List.cons_append];obtain ⟨W1,pc,hE1,hs1,hb1⟩:=eC w (.int .i64 n) (.slice a xss.length c);have HB1:=oZ hb1;have HE1:=oZ hE1;obtain ⟨wO,wN,-⟩:=bY hb1;clear hE1 hs1 hb1;refine wpIn_wide.2 ?_;go_wp2_with fail;refine (HC _ HE1).mono ?_;rintro e w1 ⟨rfl,pS⟩;have HE3:=oZ (HE1.trans pS);have g0:=pS.cell wO;have g1:=pS.cell wN;have HB3:=oZ (aF HB1 pS);have tQ:Hid (w.heap.size<w1.heap.size):=cG HB3;clear pS HC wO wN HB1 pc;go_wp2_with fail;refine Z6N ?_;refine iq (fun w'=>w'.cell? ⟨w.heap.size,0,none⟩=some (.int .i64 n)/\w'.cell? ⟨w.heap.size,1,none⟩=some (.slice a xss.length c)/\Hid (aA w1 w')) 9 (by kernel_rfl) ⟨(aA.drew w1).cell g0,(aA.drew w1).cell g1,aA.drew w1⟩ (fun pO=>?_);refine rA [0,1,3,4,6,7] ?_
 iterate 6 ((first|(refine rL (v:=?_) (by rfl) (Or.inl ⟨by rfl,?_⟩) ?_;rotate_left;·((intro w' qM);(try dsimp only at qM);(try go_simp);(try with_reducible rfl)))|(refine rW (v:=?_) (by rfl) (Or.inl ⟨by rfl,?_⟩) ?_;rotate_left;·((intro w');(try go_simp);(try with_reducible rfl))));(try simp only [Act.put,aQ,aR,aS]))
 refine rE ?_;refine dH 2 (by kernel_rfl) rfl (fun K hK=>?_);go_simp
 (go_at_call 131;refine (HLO _ (HE3.trans pO.2.2)).mono ?_)
 rintro e wx ⟨a2,c2,rfl,rk,pY⟩;have HM2:=oZ rk;go_wp2_with fail;refine hK _ _ ⟨(pY).cell pO.1,(pY).cell pO.2.1,aA.trans pO.2.2 (pY)⟩ (fun pO=>?_);clear hK K
 (try simp only [Act.put,aQ,aR,aS])
 refine dH 5 (by kernel_rfl) rfl (fun K hK=>?_);go_simp
 (go_at_call 215;refine (HK1 _ _ _ HM2 (HE3.trans pO.2.2)).mono ?_)
 rintro e wy ⟨a3,c3,rfl,xx,pY⟩;have HM3:=oZ xx;go_wp2_with fail;refine hK _ _ ⟨(pY).cell pO.1,(pY).cell pO.2.1,aA.trans pO.2.2 (pY)⟩ (fun pO=>?_);clear hK K
 (try simp only [Act.put,aQ,aR,aS])
 refine dH 8 (by kernel_rfl) rfl (fun K hK=>?_);go_simp
 (go_at_call 215;refine (HK2 _ _ _ HM3 (HE3.trans pO.2.2)).mono ?_)
 rintro e wv ⟨a4,c4,rfl,Be,pY⟩;have HM4:=oZ Be;have HSY:Hid (w1.heap.size<=wy.heap.size):=Below.size pO.2.2;go_wp2_with fail;refine hK _ _ ⟨(pY).cell pO.1,(pY).cell pO.2.1,aA.trans pO.2.2 (pY)⟩ (fun pO=>?_);clear hK K
 (try simp only [Act.put,aQ,aR,aS])
 have J1:Hid (aA w1 wv):=pO.2.2.out;refine fL 9 (by kernel_rfl) (by kernel_rfl) (by kernel_rfl) rfl (fun K hK=>?_);go_simp;refine hK _ _ ?_;clear hK K
 (try simp only [Act.put,aQ,aR,aS])
 unfold Z6R;obtain ⟨e0,e1,-⟩:=bY (aF HB3 J1);clear g0 g1 pO;obtain ⟨W5,vF⟩:=pK (wv.alloc (.cells #[.string (aB 1)] 92));have y9:aB 1=⟨#[49]⟩:=by kernel_rfl
 have GO:wv.alloc (.cells #[.string ⟨#[49]⟩] 92)=W5:=by rw [<- vF,y9]
 have pV:aA wv W5:=by rw [<- vF];exact aA.alloc _ _
 have hb5:W5.heap[wv.heap.size]?=some (.cells #[.string (aB 1)] 92 (0,0)):=by rw [<- vF];exact dq _ _ _
 have hs5:W5.heap.size=wv.heap.size+1:=by rw [<- vF];simp
 have HB5:=oZ hb5;have HS5:=oZ hs5;have HE5:=oZ pV;have HXW:Hid (aA w wv):=HE3.trans J1;have d0:=pV.cell e0;have d1:=pV.cell e1;clear vF hb5 hs5 pV e0 e1 y9;go_wp2_with fail;refine (HPV _ (HXW.trans HE5)).mono ?_;rintro e w6 ⟨bL,rfl,C8,pR⟩;have HL6:=oZ C8;have HB6:=oZ (aF HB5 pR);have HE6:=oZ (HXW.trans (HE5.trans pR));have HV6:=oZ (HE5.trans pR);have tP:Hid (w.heap.size<=wv.heap.size/\wv.heap.size<w6.heap.size/\w.heap.size<wy.heap.size):=⟨HXW.size,by have:=HS5.out;have:=pR.size;omega,by have:=tQ.out;have:=HSY.out;omega⟩;clear C8 pR d0 d1 GO;go_wp2_with fail;refine (wpIn_wide (n:=9)).1 ?_;refine W9_ rfl (by omega) (gf:=293) (lb:=#[.pointer (some ⟨bL,0,none⟩)]) rfl trivial (enters_of func293 (by kernel_rfl) rfl)
  (z4_ (9-1) (by omega) n xss _ bL w w6 HL6 HU HL4 HLIB.pow) (fun W h=>h)
  (fun i A W args hY=>by obtain ⟨x,gx,cx,-,rfl,-⟩:=hY;rfl)
  (fun i W=>∃ p,gl xss i=some p/\aH (·=wv.heap.size) w6 W/\W.heap[wv.heap.size]?=some (.cells #[.string (aB p)] 92 (0,0))) ?ab ?ix ⟨1,rfl,aH.refl _ _,HB6⟩ ?rounds ?done
 case ab =>
  rintro i W W' row ⟨p,h1,h2,h3⟩ hg hr;exact ⟨p,h1,h2.more hg (fun r e=>(hr r e).1),eV h3 hg (fun e=>by have:=(hr _ e).1;have:=tP.2.1;omega)⟩
 case ix =>
  rintro i A ⟨p,h1,h2,h3⟩;exact Below.trans HE6 (h2.below (ow tP.1 (Nat.le_of_lt tP.2.1)) (fun k hk=>by rw [hk];exact tP.1))
 case rounds =>
  rintro i A W args hi ⟨p,tJ,hG,hbx⟩ hE ⟨x,gx,cq,hx,rfl,Ai,hgx,yw,wH⟩ ⟨r0,wU⟩;have B5:aD xss i=x:=eO hx;obtain ⟨z,hz⟩:=z7_ HP (i+1) (by omega);obtain ⟨p',e1,a1,a2,a3,a4⟩:=P8_ hz;rw [tJ] at e1;obtain rfl:=o5 e1;rw [B5] at a1 a3 a4;obtain ⟨b1,b2,b3⟩:=v8_ x a1;unfold ln at a3 a4;obtain ⟨C,hC⟩:=pK (gi x);rw [hC] at b1 b2 b3 a3 a4;obtain ⟨xc,wS⟩:=pK (x.getD C 0);have tG:x[C]?=some xc:=by rw [<- wS,oe,oc b1];rfl
  rw [wS] at a3 a4;have HMU:=oZ (fun V (hV:aA w V)=>Z7I p xc V (kh a2) (kh a3) (HLIB.pow.ext hV));rw [<- a4] at HMU;have HZ:=oZ hz;have HGX:Hid (gx≠w6.heap.size+1):=fun e=>by
   have h1:=Ai.cell C xc tG;rw [Nat.zero_add] at h1;rw [e] at h1;unfold World.cell? at h1;rw [wU] at h1;simp at h1
  have HGR:=oZ (hG.ext hE);have HBX:=oZ (aF hbx hE);have HRX:=oZ Ai;have HXG:=oZ tG;have Mm:Hid (gx≠wv.heap.size):=fun e=>by have:=cG hbx;omega
  rw [b2];unfold maxLen at wH;obtain ⟨NX,yW⟩:=pK x.length;rw [yW] at b1 yw |-;clear tJ hG hbx hE hx B5 Ai hgx wU hz a1 a2 a3 a4 b2 b3 hC wS tG hi yW e1
  gi_wp2_with fail
  refine ⟨KeepsFrom.refl _ _,?_⟩;rintro Wb qR ⟨r1,qm⟩ ⟨r2,pn⟩;have hGb:=HGR.more qR (fun r e=>by cases e;omega);have hBb:=eV HBX qR (fun e=>by have:=o5 e;have:=tP.2.1;omega);have hXb:=HRX.same qR.size (qR.block gx HRX.lt (fun e=>HGX (o5 e)));have t0:=ah hBb 0;have f0:=cQ hBb 0;have t2:=hXb.cell C xc HXG;rw [Nat.zero_add] at t2;simp only [pC,o_,o9] at t0;have HGB:=oZ hGb;have HBB:=oZ hBb;have G4:Hid (aA w Wb):=Below.trans HE6 (hGb.below (ow tP.1 (Nat.le_of_lt tP.2.1)) (fun k hk=>by rw [hk];exact tP.1));have q2:(C:Int)<(NX:Int):=by omega
  clear hGb hBb hXb qR qm pn HGR HBX HRX HGX HXG
  gi_wp2_with fail
  refine Z8_ (fun w'=>w'.cell? ⟨wv.heap.size,0,none⟩=some (.string (aB p))/\w'.cell? ⟨gx,C,none⟩=some (.string (aB xc))/\Hid (aA Wb w')) 6 (by kernel_rfl) (by kernel_rfl) (by rintro ⟨_,_,h⟩;exact absurd (show Exit.outgrown=Exit.normal from h.1) (by simp)) ⟨(aA.drew Wb).cell t0,(aA.drew Wb).cell t2,aA.drew Wb⟩ (fun pO=>?_);refine rA [0,1,2,3,4] ?_
  iterate 5 ((first|(refine rL (v:=?_) (by rfl) (Or.inl ⟨by rfl,?_⟩) ?_;rotate_left;·((intro w' qM);(try dsimp only at qM);(try go_simp);(try with_reducible rfl)))|(refine rW (v:=?_) (by rfl) (Or.inl ⟨by rfl,?_⟩) ?_;rotate_left;·((intro w');(try go_simp);(try with_reducible rfl))));(try simp only [Act.put,aQ,aR,aS]))
  refine rE ?_;refine dH 5 (by kernel_rfl) rfl (fun K hK=>?_);go_simp
  (go_at_call 66;refine (HMU _ (G4.trans pO.2.2)).mono ?_)
  rintro e wz ⟨rfl,pY⟩;have HXZ:Hid (aA Wb wz):=aA.trans pO.2.2 pY;have hbz:=aF HBB HXZ;have t3:=ah hbz 0;have f3:=cQ hbz 0;simp only [pC,o_,o9] at t3;go_wp2_with fail;refine hK _ _ ⟨(pY).cell pO.1,(pY).cell pO.2.1,aA.trans pO.2.2 (pY)⟩ (fun pO=>?_);clear hK K
  (try simp only [Act.put,aQ,aR,aS])
  refine fL 6 (by kernel_rfl) (by kernel_rfl) (by kernel_rfl) rfl (fun K hK=>?_);go_simp;refine hK _ _ ?_;clear hK K
  (try simp only [Act.put,aQ,aR,aS])
  gi_wp2_with fail
  have HXZ2:=oZ HXZ;refine ⟨⟨ow HXZ2.size (by simp [World.setCell]),fun k o hk ho hc=>?_⟩,z,HZ,?_,?_⟩;·exact (Below.heap_setCell _ _ _ _ (fun e=>by have e':k=wv.heap.size:=e;have:=tP.2.1;omega)).trans ((HXZ2.block k (cG ho)).trans ho)
  ·exact (HGB.ext HXZ2).setCell rfl 0 _
  ·have:=dr (aF HBB HXZ2) 0 (.string (aB z));simpa using this
 case done =>
  rintro W ⟨p,tJ,hG,hbx⟩ hD;have e1:=HP.out;rw [tJ] at e1;obtain rfl:=o5 e1;have HBX:=oZ hbx;have HD:=oZ hD;have x6:Hid (aA w W):=Below.trans HE6 (hG.below (ow tP.1 (Nat.le_of_lt tP.2.1)) (fun k hk=>by rw [hk];exact tP.1));have HRW:=oZ (HM4.keep HV6 hG);clear tJ hG hbx hD e1;obtain ⟨a5,c5,vI,k1,k2,C5⟩:=HRW.open;simp only [Value.slice.injEq] at vI;obtain ⟨rfl,-,rfl⟩:=vI;have HRM:=oZ C5;unfold maxLen at k2;have y9:(Value.string ⟨#[49]⟩)=.string (aB 1):=by kernel_rfl
  clear C5 HRW;go_wp2_with fail
  go_loopw [43,7] (fun t o wr=>∃ (j:Nat) (q:Int),j<=R.length/\t=.int .i64 j/\o=.string (aB q)/\Hid (gl R j=some q)/\aA W wr) (fun t _ _=>R.length-(intOf t).toNat)
  case atStart=>exact ⟨0,1,by omega,rfl,y9,rfl,aA.refl _⟩
  case round =>
   obtain ⟨j,q,hj,rfl,rfl,J8,hE⟩:=hrel;obtain ⟨wo,rfl⟩:∃ wo:World,wo=wr:=⟨_,rfl⟩;have HEW:=oZ hE;by_cases hlt:j<R.length
   ·obtain ⟨gm,tags,rfl,rU⟩:∃ g0 tags,a4=some ⟨g0,0,none⟩/\bI W g0 tags R:=by
     rcases HRM.out with h0 | h0;·rw [h0] at hlt;simp at hlt
     ·exact h0
    obtain ⟨t,zL,m1,m2,m3,m4,-⟩:=(rU.ext hE).get j hlt;obtain ⟨z,hz⟩:=z7_ HQ (j+1) (by omega);obtain ⟨q',e2,b1,b2,b3,b4⟩:=P8_ hz;rw [J8.out] at e2;obtain rfl:=o5 e2;obtain ⟨x,hx⟩:=pK (aD R j);rw [hx] at m1 m2 m4 b1 b3 b4;obtain ⟨d1,d2,d3⟩:=v8_ x b1;unfold ln at b3 b4;obtain ⟨C,hC⟩:=pK (gi x);rw [hC] at d1 d2 b3 b4;obtain ⟨xc,wS⟩:=pK (x.getD C 0);have tG:x[C]?=some xc:=(by rw [<- wS,oe,oc d1];rfl);rw [wS] at b3 b4;have HMU:=oZ (fun V (hV:aA W V)=>Z7I q xc V (kh b2) (kh b3) (HLIB.pow.ext (x6.trans hV)));rw [<- b4] at HMU;have HZ:=oZ hz;have HLD:=oZ (L7_ x t.1 t.2.1 t.2.2 wo m4 m2 m3);rw [d2] at HLD;have g2:=m4.cell C xc tG;obtain ⟨NX,yW⟩:=pK x.length;rw [yW] at m1 m2 d1 HLD;unfold maxLen at m3;have qd:(C:Int)<(NX:Int):=(by omega);clear rU zL m4 hz e2 b1 b2 b3 b4 hx d2 d3 hC wS tG yW hE;go_wp2_with fail;refine HLD.mono ?_;rintro e w7 ⟨rfl,qw⟩;have g3:=qw.cell g2;have HE7:=oZ (HEW.trans qw);clear qw HLD;go_wp2_with fail;refine q_ (HMU _ HE7) (HE7.trans) ?_;intro w8 HE8;clear HMU;go_wp2_with fail;go_roundw
    case rel=>exact ⟨j+1,z,by omega,by go_num,rfl,HZ,HE8⟩
    case measure=>simp [intOf];omega
   ·obtain rfl:j=R.length:=(by omega);have e2:=HQ.out;rw [J8.out] at e2;obtain rfl:=o5 e2;have HDM:=oZ (lB p q wo (eG HPS) (eG HQS) HQ0 (HLIB.pow.ext (x6.trans hE)));have t0:=ah (aF HBX hE) 0;simp only [pC,o_,o9] at t0;obtain ⟨qq,yi⟩:=pK (aL p q);rw [yi] at HDM HSQ;have HDW:=oZ (aF HD hE);have HQQ:=oZ yi;clear e2 hE yi;go_wp2_with fail;refine HDM.mono ?_;rintro e w9 ⟨rfl,tO⟩;have HE9:=oZ (HEW.trans tO);have IZ:aW (w9.alloc (.cells #[.string (aB qq)] 92)) w9.heap.size 0 [qq]:=by
     refine ⟨by simp,fun j x FU=>?_,fun j=>?_⟩
     ·cases j with
      | zero=>simp at FU;subst FU;rw [Nat.zero_add,World.cell?_alloc_new];rfl
      | succ j=>simp at FU
     ·exact cQ (dq w9 #[.string (aB qq)] 92) j
    have HSH:=oZ (k0_ [qq] w9.heap.size 0 1 _ IZ (by simp) (by unfold maxLen;omega) (by simp) (by simp [HSQ.out]) (HLIB.ext (x6.trans (HE9.trans (aA.alloc _ _)))));have tq:([qq]:pN).length=1:=rfl;rw [tq] at HSH;have HDQ:=oZ (aF HDW (tO.trans (aA.alloc w9 (.cells #[.string (aB qq)] 92))));clear tO HDM IZ tq t0;go_wp2_with fail;refine HSH.mono ?_;rintro e KO tI;unfold kB at tI;have hall:([qq].all dX)=dX qq:=(by simp);rw [hall] at tI;by_cases hf:dX qq=true
    ·rw [if_pos hf] at tI;obtain ⟨aa,cc,rfl,hI,-,vg⟩:=tI;have HF:=oZ hf;obtain ⟨hl,rh,Lg,-,pP⟩:=hI.cells;obtain ⟨bb,ob,rfl,hbb,JB⟩:=pP (by simp);have g5:=JB 0 qq rfl;rw [Nat.add_zero] at g5;have HDZ:=oZ (aF HDQ vg);have HEZ:=oZ (x6.trans (HE9.trans ((aA.alloc w9 (.cells #[.string (aB qq)] 92)).trans vg)));simp only [List.length_cons,List.length_nil] at rh;clear hI vg hf hl pP JB hall HSH;go_wp2_with fail;refine ⟨by simp,.inl ⟨_,_,rfl,run_takeDeferred HDZ,?_⟩⟩;refine ⟨_,results_tmp2 rfl _ _ _,?_⟩;unfold Z7j;rw [HQQ.out,if_pos HF.out];exact ⟨rfl,jm HEZ (grownBy_putObj' _ _ _) (fun r e=>by cases e;exact ow tP.1 (Nat.le_of_lt tP.2.1))⟩
    ·rw [if_neg hf] at tI;obtain ⟨rfl,vg⟩:=tI;have HF:=oZ hf;have HDZ:=oZ (aF HDQ vg);have HEZ:=oZ (x6.trans (HE9.trans ((aA.alloc w9 (.cells #[.string (aB qq)] 92)).trans vg)));clear vg hf hall HSH;go_wp2_with fail;refine ⟨by simp,.inl ⟨_,_,rfl,run_takeDeferred HDZ,?_⟩⟩;refine ⟨_,results_tmp2 rfl _ _ _,?_⟩;unfold Z7j;rw [HQQ.out,if_neg HF.out];exact ⟨rfl,jm HEZ (grownBy_putObj' _ _ _) (fun r e=>by cases e;exact ow tP.1 (Nat.le_of_lt tP.2.1))⟩
end Go.Proofs.YtoonaddcfakamaaGreatDoor
namespace Go.Proofs.YtoonaddcfakamaaGreatDoor
open Go.RowKit Go.Proofs.Tryz
def Z6k (n:Int) (d:Nat):Prop:=∀ k:Nat,2<=k->k<d->n.tmod (k:Int)≠0
def nj (n:Int) (k:Nat):Bool:=decide (2<=k) && (decide ((k:Int)*(k:Int)<=n) && decide (n.tmod (k:Int)=0))
def fX (n:Int):Bool:=decide (2<=n) && (decide (n<=97) && !((List.range 98).any (nj n)))
theorem z6_ {n:Int} (h:¬ (2<=n/\n<=97)):fX n=false:=by
 unfold fX;by_cases h1:2<=n;·rw [pD (show ¬ n<=97 from fun h2=>h ⟨h1,h2⟩)];simp
 ·rw [pD h1];rfl
theorem Z1d {n:Int} {k:Nat} (h1:2<=k) (h9:k<98) (h2:(k:Int)*(k:Int)<=n) (h3:n.tmod (k:Int)=0):fX n=false:=by
 unfold fX;have:(List.range 98).any (nj n)=true:=by
  rw [List.any_eq_true];exact ⟨k,List.mem_range.2 h9,by unfold nj;rw [pE h1,pE h2,pE h3];rfl⟩
 rw [this];simp
theorem Z3r {n:Int} {d:Nat} (h1:2<=n) (h2:n<=97) (hd:Z6k n d) (wF:n<(d:Int)*(d:Int)):fX n=true:=by
 unfold fX;rw [pE h1,pE h2];have:(List.range 98).any (nj n)=false:=by
  rw [List.any_eq_false];intro k hk;unfold nj;intro hh;rw [Bool.and_eq_true,Bool.and_eq_true,decide_eq_true_iff,decide_eq_true_iff,decide_eq_true_iff] at hh;obtain ⟨k1,k2,k3⟩:=hh;by_cases LB:k<d;·exact hd k k1 LB k3
  ·have:(d:Int)*(d:Int)<=(k:Int)*(k:Int):=Int.mul_le_mul (by omega) (by omega) (by omega) (by omega);omega
 rw [this];rfl
theorem h7_ (n:Int) (w:World) :
  pJ 222 #[.int .i64 n] w (.bool (fX n)):=by
 by_cases h1:n<2
 ·have HV:Hid (fX n=false):=z6_ (by omega)
  go_enter func222,ntmps222
  go_wp2_with fail;go_ret;exact ⟨by rw [HV.out];rfl,rfl⟩
 ·by_cases h2:97<n
  ·have HV:Hid (fX n=false):=z6_ (by omega)
   go_enter func222,ntmps222
   go_wp2_with fail;go_ret;exact ⟨by rw [HV.out];rfl,rfl⟩
  ·have HN:Hid (2<=n/\n<=97):=⟨by omega,by omega⟩
   go_enter func222,ntmps222
   go_wp2_with fail
   go_loopw [3] (fun t wr=>∃ d:Nat,2<=d/\d<=98/\t=.int .i64 d/\w=wr/\Hid (Z6k n d)) (fun t _=>98-(intOf t).toNat)
   case atStart=>exact ⟨2,by omega,by omega,rfl,rfl,fun k h1 h2=>by omega⟩
   case round =>
    obtain ⟨d,hd,hd2,rfl,rfl,HD⟩:=hrel;have wF:(d:Int)*(d:Int)<=9604:=by
     have:(d:Int)*(d:Int)<=98*98:=Int.mul_le_mul (by omega) (by omega) (by omega) (by omega);omega
    have Fx:0<=(d:Int)*(d:Int):=Int.mul_nonneg (by omega) (by omega);have Fw:(d:Int)*2<=(d:Int)*(d:Int):=Int.mul_le_mul_of_nonneg_left (by omega) (by omega);have Nj:(d:Int)≠0:=(by omega);obtain ⟨q,hq⟩:=pK ((d:Int)*(d:Int));have HQ:=oZ hq;rw [hq] at wF Fx Fw;by_cases hle:q<=n
    ·have hm:(n.tmod (d:Int)).natAbs<=n.natAbs:=(by rw [Int.natAbs_tmod];exact Nat.mod_le _ _);obtain ⟨t,ht⟩:=pK (n.tmod (d:Int));have HT:=oZ ht;by_cases hz:t=0
     ·have HV:Hid (fX n=false):=Z1d hd (by omega) (by rw [HQ.out];exact hle) (by rw [HT.out];exact hz);subst hz;clear hm;go_wp2_with fail;go_ret;exact ⟨by rw [HV.out];rfl,rfl⟩
     ·have HD2:Hid (Z6k n (d+1)):=fun k k1 k2=>by
       by_cases hk:k=d;·rw [hk,HT.out];exact hz
       ·exact HD k k1 (by omega)
      rw [ht] at hm;go_wp2_with fail;go_roundw
      case rel=>exact ⟨d+1,by omega,by omega,by go_num,by first | rfl | trivial,HD2⟩
      case measure=>simp [intOf];omega
    ·have HV:Hid (fX n=true):=Z3r HN.1 HN.2 HD (by rw [HQ.out];omega);go_wp2_with fail;go_ret;exact ⟨by rw [HV.out];rfl,rfl⟩
def iu:Option Int->List Int->Int
 | _,[]=>0
 | none,x::l=>if fX x=true then iu (some x) l else 25
 | some y,x::l=>if fX x=true then (if x<=y then 6 else iu (some x) l) else 25
theorem y2_ (x:Int) (l:pN):iu none (x::l)=if fX x=true then iu (some x) l else 25:=rfl
theorem y3_ (y x:Int) (l:pN):iu (some y) (x::l)=if fX x=true then (if x<=y then 6 else iu (some x) l) else 25:=rfl
def gj (p:pN) (j:Nat):Option Int:=if j=0 then none else p[j-1]?
def eF (p:pN):Int:=if p.length=0 then 13 else if 6<p.length then 4 else iu none p
theorem mu (p:pN) (v:Value) (w:World) (h:aM w v p) :
  pJ 124 #[v] w (.int .i64 (eF p)):=by
 obtain ⟨a,c,rfl,h1,h2,-,-,hc⟩:=h.open;have HC:=oZ hc;unfold maxLen at h2;clear h hc;by_cases h0:p.length=0
 ·have HV:Hid (eF p=13):=by unfold Hid eF;rw [if_pos h0]
  rw [HV.out,h0]
  go_enter func124,ntmps124
  go_wp2_with fail;go_ret;exact ⟨rfl,rfl⟩
 by_cases h6:6<p.length
 ·have HV:Hid (eF p=4):=by unfold Hid eF;rw [if_neg h0,if_pos h6]
  rw [HV.out];have MQ:(6:Int)<(p.length:Int):=by omega
  have MV:¬ (p.length:Int)=0:=by omega
  go_enter func124,ntmps124
  go_wp2_with fail;go_ret;exact ⟨rfl,rfl⟩
 have HV:Hid (eF p=iu none p):=by unfold Hid eF;rw [if_neg h0,if_neg h6]
 have MQ:¬ (6:Int)<(p.length:Int):=by omega
 have MV:¬ (p.length:Int)=0:=by omega
 obtain ⟨E,hE⟩:=pK (eF p);rw [hE] at HV |-;clear hE
 go_enter func124,ntmps124
 go_wp2_with fail
 go_loopw [15] (fun t wr=>∃ j:Nat,j<=p.length/\t=.int .i64 j/\w=wr/\Hid (iu (gj p j) (p.drop j)=E)) (fun t _=>p.length-(intOf t).toNat)
 case atStart=>exact ⟨0,by omega,rfl,rfl,by unfold Hid gj;rw [if_pos rfl,List.drop_zero];exact HV.symm⟩
 case round =>
  obtain ⟨j,hj,rfl,rfl,HS⟩:=hrel;by_cases hlt:j<p.length
  ·obtain ⟨b,off,rfl,hb,pP⟩:=HC (by intro e;simp [e] at hlt);obtain ⟨x,hx⟩:∃ x,p[j]?=some x:=⟨p[j],oc hlt⟩;have g1:=pP j x hx;have HIP:=oZ (h7_ x w);have hS:=HS.out;rw [I2_ hx] at hS;by_cases hp:fX x=true
   ·rw [hp] at HIP;by_cases AN:j=0
    ·subst AN;have HS2:Hid (iu (gj p 1) (p.drop 1)=E):=by
      unfold Hid;have:gj p 1=some x:=(by unfold gj;rw [if_neg (by omega)];exact hx);have MU:gj p 0=none:=rfl;rw [this,<- hS,MU,y2_,if_pos hp]
     rw [Nat.add_zero] at g1;clear pP hS HS hx;go_wp2_with fail;refine r_ HIP ?_;go_wp2_with fail;go_roundw
     case rel=>exact ⟨1,by omega,by go_num,by first | rfl | trivial,HS2⟩
     case measure=>simp [intOf];omega
    ·obtain ⟨y,hy⟩:∃ y,p[j-1]?=some y:=⟨p[j-1],oc (by omega)⟩;have g2:=pP (j-1) y hy;have e1:((j:Int)-1)=((j-1:Nat):Int):=(by omega);have BQ:gj p j=some y:=(by unfold gj;rw [if_neg AN];exact hy);rw [BQ] at hS;rw [y3_,if_pos hp] at hS;have Dx:(0:Int)<(j:Int):=(by omega);obtain ⟨k,hk⟩:=pL (j-1);rw [<- hk] at g2 e1;have hk1:(k:Int)<(p.length:Int):=(by omega);clear hk;by_cases hxy:x<=y
     ·rw [if_pos hxy] at hS;have HS2:=oZ hS;clear pP hS HS hx hy BQ AN;go_wp2_with fail;refine r_ HIP ?_;go_wp2_with fail;go_ret;exact ⟨by rw [<- HS2.out];rfl,rfl⟩
     ·rw [if_neg hxy] at hS;have HS2:Hid (iu (gj p (j+1)) (p.drop (j+1))=E):=by
       unfold Hid;have:gj p (j+1)=some x:=(by unfold gj;rw [if_neg (by omega)];exact hx);rw [this];exact hS
      clear pP hS HS hx hy BQ AN;go_wp2_with fail;refine r_ HIP ?_;go_wp2_with fail;go_roundw
      case rel=>exact ⟨j+1,by omega,by go_num,by first | rfl | trivial,HS2⟩
      case measure=>simp [intOf];omega
   ·have Kz:fX x=false:=(by simpa using hp);rw [Kz] at HIP;have HS2:Hid (E=25):=by
     unfold Hid;rw [<- hS];cases gj p j with
     | none=>rw [y2_,if_neg hp]
     | some y=>rw [y3_,if_neg hp]
    clear pP hS HS hx hp;go_wp2_with fail;refine r_ HIP ?_;go_wp2_with fail;go_ret;exact ⟨by rw [HS2.out];rfl,rfl⟩
  ·obtain rfl:j=p.length:=(by omega);have hS:=HS.out;rw [List.drop_length] at hS;have HS2:Hid (E=0):=by
    unfold Hid;rw [<- hS];cases gj p p.length <;> rfl
   clear hS HS;go_wp2_with fail;go_ret;exact ⟨by rw [HS2.out];rfl,rfl⟩
theorem Z1F (x y:pN) (u v:Value) (w:World) (hx:aM w u x) (hy:aM w v y) :
  pI 198 #[u,v] w (.bool (x == y)):=by
 have HE:=oZ (N0_ x y u v w hx hy);clear hx hy;obtain ⟨B,hB⟩:∃ B:Bool,(x == y)=B:=⟨_,rfl⟩;rw [hB] at HE |-;clear hB
 go_enter func198,ntmps198
 go_wp2_with fail;refine p_ HE ?_;intro w1 HE1;go_wp2_with fail;go_ret;exact ⟨rfl,HE1⟩
theorem F5_ (xss yss:pM) (u v:Value) (w:World) (hu:aw w u xss) (hv:aw w v yss) :
  pI 98 #[u,v] w (.bool (xss == yss)):=by
 have HEQ:=oZ (X7_ (R:=aM) (fun _ _ _ _ he h=>aM.ext h he) xss yss u v 198 #[] (· == ·) w hu hv (enters_of func198 (by kernel_rfl) rfl) (fun W x y a b _ _ _ ha hb=>Z1F x y a b W ha hb));rw [v0_] at HEQ;obtain ⟨B,hB⟩:∃ B:Bool,(xss == yss)=B:=⟨_,rfl⟩;rw [hB] at HEQ |-;clear hB hu hv
 go_enter func98,ntmps98
 go_wp2_with fail;refine p_ HEQ ?_;intro w1 HE1;go_wp2_with fail;go_ret;exact ⟨rfl,HE1⟩
def cP (w:World) (v:Value) (P:pN) (C M:pM):Prop:=∃ p c m,v=.agg #[p,c,m]/\aM w p P/\aw w c C/\aw w m M
theorem cP.ext {w w':World} {v:Value} {P:pN} {C M:pM} (h:cP w v P C M) (he:aA w w'):cP w' v P C M:=by
 obtain ⟨p,c,m,h1,h2,h3,h4⟩:=h;exact ⟨p,c,m,h1,h2.ext he,h3.ext he,h4.ext he⟩
theorem cU {w:World} {B:Nat} {x y z:Value} (h:w.heap[B]?=some (.cells #[x,y,z] 34 (0,0))):w.cell? ⟨B,0,none⟩=some x/\w.cell? ⟨B,1,none⟩=some y/\w.cell? ⟨B,2,none⟩=some z/\∀ i,w.frozen? ⟨B,i,none⟩=false:=by
 have h0:=ah h 0;have h1:=ah h 1;have h2:=ah h 2;simp only [pC,o_,o9] at h0 h1 h2;exact ⟨h0,h1,h2,cQ h⟩
theorem j6 {w:World} {B:Nat} {x y z:Value} (h:w.heap[B]?=some (.cells #[x,y,z] 34 (0,0))) (a b c:Value):(((w.setCell ⟨B,0,none⟩ a).setCell ⟨B,1,none⟩ b).setCell ⟨B,2,none⟩ c).heap[B]?=some (.cells #[a,b,c] 34 (0,0)):=by
 have:=dr (dr (dr h 0 a) 1 b) 2 c;simpa using this
theorem gU (w:World) (x y z:Value):∃ W,w.alloc (.cells #[x,y,z] 34)=W/\aA w W/\W.heap.size=w.heap.size+1/\W.heap[w.heap.size]?=some (.cells #[x,y,z] 34 (0,0)):=⟨_,rfl,aA.alloc _ _,by simp,dq _ _ _⟩
theorem jn {w W:World} {B:Nat} (hE:aA w W) (hB:w.heap.size<=B) (a b c:Value):aA w (((W.setCell ⟨B,0,none⟩ a).setCell ⟨B,1,none⟩ b).setCell ⟨B,2,none⟩ c) :=
 ((hE.setCell (p:=⟨B,0,none⟩) hB a).setCell (p:=⟨B,1,none⟩) hB b).setCell (p:=⟨B,2,none⟩) hB c
theorem J4_ (xs:pN) (v:Value) (w:World) (h:aM w v xs) (hlen:xs.length<=1000000) :
  Calls prog 145 #[v] w fun e w'=>∃ r,e=.returned r/\aA w w'/\w'.ownsRow w.heap.size 3 1 r xs.length (xs.map (Value.int .i64)):=by
 obtain ⟨a,c,rfl,h1,h2,h3,hb,hc⟩:=h.open;obtain ⟨i0,hi,pk,hz1,hz2⟩:=info_parts jo;have HI:=oZ hi;have HZ0:=oZ pk;have HZ1:=oZ hz1;have HZ2:=oZ hz2;have HB:=oZ hb;have HC:=oZ hc;clear hi pk hz1 hz2 hb hc h;unfold maxLen at h2;cases a with
 | none =>
  have h0:xs=[]:=by have:=h3 rfl;exact List.eq_nil_of_length_eq_zero (by omega)
  subst h0;obtain rfl:c=0:=h3 rfl;clear h3 h1 h2 hlen;have heq:=fun w=>Lib.run_eql_slice_nil (P:=prog) w 30 3 none 0 0 0 0 underlying30
  go_enter func145,ntmps145
  go_wp2
  go_ret;exact ⟨_,rfl,aA.refl _,World.ownsRow_nil _ _ _ _⟩
 | some ad =>
  clear h3;have heq:=fun w=>Lib.run_eql_slice_nil (P:=prog) w 30 3 (some ad) xs.length c 0 0 underlying30;have hown:(w.alloc (.cells #[] 3)).ownsRow w.heap.size 3 1 (.slice (some ⟨w.heap.size,0,none⟩) 0 0) 0 []:=World.ownsRow_made w #[] 0 (oz _) (Nat.zero_le _) rfl;have vk:∀ (j:Nat) (u:Value),(xs.map (Value.int .i64))[j]?=some u->(w.alloc (.cells #[] 3)).cell? (ad.add j)=some u:=by
   intro j u hu;rw [oh] at hu;cases hj:xs[j]? with
   | none=>simp [hj] at hu
   | some x =>
    simp [hj] at hu;subst hu;obtain ⟨b,off,qL,sG,pP⟩:=HC (by intro e;simp [e] at hj);cases qL;have:=pP j x hj;rw [show (⟨b,off,none⟩:Addr).add j=⟨b,off+j,none⟩ by unfold Addr.add;split <;> simp_all];exact aA.cell (aA.alloc w _) this
  have HOWN:=oZ hown;have HNEWS:=oZ vk;clear hown vk
  go_enter func145,ntmps145
  go_wp2_with (at_builtin;refine wpList_append_own _ rfl _ _ 30 rfl w.heap.size 3 i0 (.int .i64 0) 1 8 underlying30 HI HZ0 HZ1 HZ2 rfl (by decide) _ _ _ rfl HOWN ad xs.length c (xs.map (Value.int .i64)) rfl ?d1 HNEWS ?d2 ?d3 ?d4 ?d5 ?_)
  case d1=>simp
  case d2=>exact ints_oneCell _ _
  case d3=>unfold maxLen;omega
  case d4=>omega
  case d5=>simp
  intro v' w1 qT pQ _;have HO:=oZ qT;have HG:=oZ pQ;clear qT pQ
  go_wp2
  go_ret;refine ⟨v',rfl,?_,?_⟩;·exact Below.grown (aA.alloc w _) HG (by simp) (by intro k hk;simp [Value.ownBlock] at hk;omega)
  ·have:=HO.out;simpa using this
theorem I4_ (xs ys:pN) (u v:Value) (w:World) (h:aM w u xs) (k:aM w v ys) :
  pI 97 #[u,v] w (.bool (xs == ys)):=by
 obtain ⟨a,c,rfl,h1,h2,-,hxb,hc⟩:=h.open;obtain ⟨a',c',rfl,k1,k2,-,hyb,kc⟩:=k.open;have HC:=oZ hc;have KC:=oZ kc;clear hc kc h k hxb hyb;unfold maxLen at h2 k2;by_cases hl:xs.length=ys.length
 ·have hn:((xs.length:Int) != (ys.length:Int))=false:=by simp [hl]
  have rq:xs.length<=ys.length:=by omega
  have yo:ys.length<=xs.length:=by omega
  have HL:=oZ hl;clear hl
  go_enter func97,ntmps97
  go_wp2
  go_loopw [13] (fun t wr=>∃ j:Nat,j<=xs.length/\t=.int .i64 j/\aA w wr/\Hid (xs.take j=ys.take j)) (fun t _=>xs.length-(intOf t).toNat)
  case atStart=>exact ⟨0,by omega,rfl,aA.refl _,rfl⟩
  case round =>
   obtain ⟨j,hj,rfl,hE,HT⟩:=hrel;by_cases hlt:j<xs.length
   ·obtain ⟨b,off,rfl,hb,pP⟩:=HC (by intro e;simp [e] at hlt);obtain ⟨b',off',rfl,ql,pq⟩:=KC.out (by intro e;simp [e] at rq;simp [rq] at hlt);obtain ⟨x,hx⟩:∃ x,xs[j]?=some x:=⟨xs[j],oc hlt⟩;obtain ⟨y,hy⟩:∃ y,ys[j]?=some y:=⟨ys[j]'(by omega),oc _⟩;have g1:=hE.cell (pP j x hx);have g2:=hE.cell (pq j y hy);have q1:(j:Int)<(xs.length:Int):=(by omega);have q2:(j:Int)<(ys.length:Int):=(by omega);have HX:=oZ hx;have HY:=oZ hy;clear pP pq hx hy;by_cases hxy:x=y
    ·have hb:(x != y)=false:=(by simp [hxy]);have A7:Hid (xs.take (j+1)=ys.take (j+1)):=by
      unfold Hid;rw [ou,ou,HX.out,HY.out,HT.out,hxy]
     clear hxy
     go_wp2
     go_quiet (fail)
     go_wp2
     go_roundw
     case rel=>exact ⟨j+1,by omega,by go_num,aA.draws hE _,A7⟩
     case measure=>simp [intOf];omega
    ·have hb:(x != y)=true:=(by simp [hxy]);have HF:Hid ((xs == ys)=false):=by
      unfold Hid;rw [beq_eq_false_iff_ne];intro e;have e1:=HX.out;have e2:=HY.out;rw [e,e2] at e1;exact hxy (by simpa using e1.symm)
     clear hxy
     go_wp2
     go_quiet (fail)
     go_wp2
     go_ret;rw [HF.out];exact ⟨rfl,aA.draws hE _⟩
   ·have hge:xs.length<=j:=(by omega);have A0:Hid ((xs == ys)=true):=by
     unfold Hid;have e:=HT.out;rw [List.take_of_length_le (by omega),List.take_of_length_le (by omega)] at e;simp [e]
    go_wp2
    go_ret;rw [A0.out];exact ⟨rfl,hE⟩
 ·have hn:((xs.length:Int) != (ys.length:Int))=true:=by simp;omega
  have HF:Hid ((xs == ys)=false):=by
   unfold Hid;rw [beq_eq_false_iff_ne];intro e;exact hl (by rw [e])
  clear hl
  go_enter func97,ntmps97
  go_wp2
  go_ret;rw [HF.out];exact ⟨rfl,aA.refl _⟩
end Go.Proofs.YtoonaddcfakamaaGreatDoor
