import Derived.Test.YtjlkkofmojgipaaGreatDoorXAH
import Derived.Deep.CutRange
import Derived.Test.YtjlkkofmojgipaaGreatDoorXAA
import Derived.Test.YtjlkkofmojgipaaGreatDoorXAG
set_option linter.unusedVariables false
set_option linter.unusedSimpArgs false
set_option maxRecDepth 1000000
set_option maxHeartbeats 16000000
namespace Go.Proofs.YtjlkkofmojgipaaGreatDoor
open Go.RowKit Go.Proofs.Tryz
theorem nJ:aD 1=⟨#[49]⟩:=by unfold aD Lib.itoa;rw [if_neg (by omega),show (1:Int).toNat=1 from rfl,Lib.decDigits_one (by omega)];rfl
theorem lI:aE 1=⟨#[49]⟩:=by unfold aE;rw [Lib.decDigits_one (by omega)];rfl
theorem Z1O:aD 0=⟨#[48]⟩:=by unfold aD Lib.itoa;rw [if_neg (by omega),show (0:Int).toNat=0 from rfl,Lib.decDigits_one (by omega)];rfl
theorem x5_:bW 1=.agg #[.string ⟨#[49]⟩,.string ⟨#[49]⟩]:=by
 show Value.agg #[.string (aD 1),.string (aE 1)]=_;rw [nJ,lI]
theorem Z2z:bW 0=.agg #[.string ⟨#[48]⟩,.string ⟨#[49]⟩]:=by
 show Value.agg #[.string (aD 0),.string (aE 1)]=_;rw [Z1O,lI]
theorem b0_ (w:World):oW 159 #[] w (bW 1):=by
 rw [x5_]
 go_enter func159,ntmps159
 go_wp2
 refine bodyPost_ret (results_cell_row (by rfl) _ _ w.heap.size 152 #[.string ⟨#[49]⟩,.string ⟨#[49]⟩] (0,0) _ (by rfl) (heap_alloc_new _ _) underlying152 (by rfl) (by kernel_rfl)) (by rfl) ⟨rfl,aC.alloc _ _⟩
theorem Z33 (w:World):oW 161 #[] w (bW 0):=by
 rw [Z2z]
 go_enter func161,ntmps161
 go_wp2
 refine bodyPost_ret (results_cell_row (by rfl) _ _ w.heap.size 152 #[.string ⟨#[48]⟩,.string ⟨#[49]⟩] (0,0) _ (by rfl) (heap_alloc_new _ _) underlying152 (by rfl) (by kernel_rfl)) (by rfl) ⟨rfl,aC.alloc _ _⟩
theorem S1_ {S S':Nat->Prop} {w w1 w2:World} (h:aP S w w1) (g:aP S' w1 w2) (hS:∀ b,S' b->w.heap.size<=b\/S b):aP S w w2 :=
 ⟨g.os.trans h.os,g.tape.trans h.tape,g.output.trans h.output,oI h.size g.size,fun k hk hn=>(g.block k (oH hk h.size) (fun hs=>by
  rcases hS k hs with h1 | h1
  ·omega
  ·exact hn h1)).trans (h.block k hk hn)⟩
def dE (w:World) (D:Nat) (q:Rat):Prop:=w.heap[D]?=some (.cells #[.string (aD q.num),.string (aE q.den)] 152 (0,0))
theorem dE.ext {w w':World} {D:Nat} {q:Rat} (h:dE w D q) (he:aC w w'):dE w' D q:=aO h he
theorem dE.grown {w w':World} {S:Nat->Prop} {D:Nat} {q:Rat} (h:dE w D q) (hg:aP S w w') (hS:¬ S D):dE w' D q:=(hg.block D (dS h) hS).trans h
theorem dE.cells {w:World} {D:Nat} {q:Rat} (h:dE w D q):w.cell? ⟨D,0,none⟩=some (.string (aD q.num))/\w.cell? ⟨D,1,none⟩=some (.string (aE q.den))/\w.frozen? ⟨D,0,none⟩=false/\w.frozen? ⟨D,1,none⟩=false:=by
 obtain ⟨a,b,c⟩:=dp h;exact ⟨a,b,c 0,c 1⟩
theorem dE.set {w:World} {D:Nat} {q:Rat} (h:dE w D q) (r:Rat):dE ((w.setCell ⟨D,0,none⟩ (.string (aD r.num))).setCell ⟨D,1,none⟩ (.string (aE r.den))) D r:=ks h
def ck (B:Nat) (w:World) (v:Value) (l:List Nat):Prop:=w.ownsRow B 3 1 v l.length (l.map fun c:Nat=>Value.int .i64 (c:Int))
theorem ck.nil (B:Nat) (w:World):ck B w (.slice none 0 0) []:=World.ownsRow_nil w B 3 1
theorem ck.ext {B:Nat} {w w':World} {v:Value} {l:List Nat} (h:ck B w v l) (he:aC w w'):ck B w' v l:=fi h he
theorem ck.lt {B:Nat} {w:World} {v:Value} {l:List Nat} (h:ck B w v l):∀ b,v.ownBlock=some b->B<=b/\b<w.heap.size:=World.ownsRow.lt h
theorem ck.form {B:Nat} {w:World} {v:Value} {l:List Nat} (h:ck B w v l):∃ a cap,v=.slice a l.length cap/\l.length<=cap/\cap<=9223372036854775807:=by
 rcases h.2 with ⟨rfl,hn⟩ | ⟨g,cap,cur,rfl,hb,hg,h1,h2,h3,h4⟩
 ·exact ⟨none,0,by rw [hn],by omega,by omega⟩
 ·exact ⟨_,cap,rfl,h1,h2⟩
theorem ck.grown {S:Nat->Prop} {B:Nat} {w w':World} {v:Value} {l:List Nat} (h:ck B w v l) (hg:aP S w w') (hS:∀ b,S b->b<B):ck B w' v l:=by
 refine ⟨h.1,?_⟩;rcases h.2 with h' | ⟨g,cap,cur,rfl,hb,ru,rest⟩
 ·exact .inl h'
 ·exact .inr ⟨g,cap,cur,rfl,hb,(hg.block g (Array.getElem?_eq_some_iff.1 ru).1 (fun hs=>by have:=hS g hs;omega)).trans ru,rest⟩
def nI (_:World) (u:List Value) (x:Nat):Prop:=u=[.int .i64 (x:Int)]
theorem ck.build {B:Nat} {w:World} {v:Value} {l:List Nat} (h:ck B w v l):aZ w B 3 1 v nI l:=by
 refine ⟨l.map fun x:Nat=>[Value.int .i64 (x:Int)],by simp,by simp,?_,?_⟩
 ·rw [eI];exact h
 ·intro j u x hu hx w' _;simp only [oE,hx,Option.map_some,Option.some.injEq] at hu;exact hu.symm
theorem aZ.ownI {B:Nat} {w:World} {v:Value} {l:List Nat} (h:aZ w B 3 1 v nI l):ck B w v l:=by
 obtain ⟨us,h1,h2,h3,h4⟩:=h;have:us=l.map fun x:Nat=>[Value.int .i64 (x:Int)]:=by
  apply List.ext_getElem?;intro i;rw [oE];by_cases hi:i<l.length
  ·have hi2:i<us.length:=by omega
   have:=(h4 i us[i] l[i] (by simp [hi2]) (by simp [hi])).now;simp only [nI] at this;simp [hi,hi2,this]
  ·rw [oK (by omega),oK (by omega)];rfl
 rw [this,eI] at h3;exact h3
theorem S9_ (x:Rat):(x.num.sign == 0)=decide (x=0):=by
 rw [Bool.eq_iff_iff,beq_iff_eq,decide_eq_true_iff,Int.sign_eq_zero_iff_zero,Rat.num_eq_zero]
structure cZ (w0 wr:World) (g0 D:Nat) (oZ:List (Nat×Nat)) (m1:List (List Rat)) (d1:Rat) (v:Value) (ld:List Nat) (tags:List (Nat×Nat)):Prop where
 mat:dH wr g0 tags m1
 box:dE wr D d1
 lead:ck (D+1) wr v ld
 same:∀ b,bZ g0 tags b↔bZ g0 oZ b
 grown:aP (bZ g0 oZ) w0 wr
 size:D<wr.heap.size
theorem cZ.ext {w0 wr w':World} {g0 D:Nat} {oZ:List (Nat×Nat)} {m1:List (List Rat)} {d1:Rat} {v:Value} {ld:List Nat} {tags:List (Nat×Nat)} (h:cZ w0 wr g0 D oZ m1 d1 v ld tags) (he:aC wr w'):cZ w0 w' g0 D oZ m1 d1 v ld tags :=
 ⟨h.mat.ext he,h.box.ext he,h.lead.ext he,h.same,h.grown.trans (he.grownS _),oH h.size he.size⟩
theorem cZ.setBox {w0 wr:World} {g0 D:Nat} {oZ:List (Nat×Nat)} {m1:List (List Rat)} {d1:Rat} {v:Value} {ld:List Nat} {tags:List (Nat×Nat)} (h:cZ w0 wr g0 D oZ m1 d1 v ld tags) (hb:∀ b,bZ g0 tags b->b<D) (hD:w0.heap.size<=D) (q:Rat) :
  cZ w0 ((wr.setCell ⟨D,0,none⟩ (.string (aD q.num))).setCell ⟨D,1,none⟩ (.string (aE q.den))) g0 D oZ m1 q v ld tags:=by
 have hgr:aP (·=D) wr ((wr.setCell ⟨D,0,none⟩ (.string (aD q.num))).setCell ⟨D,1,none⟩ (.string (aE q.den))):=((aP.refl (·=D) wr).store (S:=(·=D)) rfl _ _).store (S:=(·=D)) rfl _ _;exact ⟨h.mat.grown hgr (fun b qx e=>by have:=hb b qx;omega),h.box.set q,h.lead.grown hgr (fun b e=>by omega),h.same,S1_ h.grown hgr (fun b e=>.inl (by omega)),by rw [dX,dX];exact h.size⟩
structure mc (w0 wr:World) (g0 D:Nat) (oZ:List (Nat×Nat)) (m0:List (List Rat)) (c:Nat) (v:Value) (tags:List (Nat×Nat)):Prop where
 mat:dH wr g0 tags (aj m0 c).m
 box:dE wr D (aj m0 c).det
 lead:ck (D+1) wr v (aj m0 c).lead
 same:∀ b,bZ g0 tags b↔bZ g0 oZ b
 grown:aP (bZ g0 oZ) w0 wr
 size:D<wr.heap.size
theorem mc.mid {w0 wr:World} {g0 D:Nat} {oZ:List (Nat×Nat)} {m0:List (List Rat)} {c:Nat} {v:Value} {tags:List (Nat×Nat)} (h:mc w0 wr g0 D oZ m0 c v tags):cZ w0 wr g0 D oZ (aj m0 c).m (aj m0 c).det v (aj m0 c).lead tags :=
 ⟨h.mat,h.box,h.lead,h.same,h.grown,h.size⟩
theorem cZ.redOf {w0 wr:World} {g0 D:Nat} {oZ:List (Nat×Nat)} {m0 m1:List (List Rat)} {d1:Rat} {c:Nat} {v:Value} {ld:List Nat} {tags:List (Nat×Nat)} (h:cZ w0 wr g0 D oZ m1 d1 v ld tags) (e:aj m0 c=⟨m1,ld,d1⟩):mc w0 wr g0 D oZ m0 c v tags :=
 ⟨by rw [e];exact h.mat,by rw [e];exact h.box,by rw [e];exact h.lead,h.same,h.grown,h.size⟩
theorem ck.low {B B':Nat} {w:World} {v:Value} {l:List Nat} (h:ck B w v l) (hb:B'<=B):ck B' w v l:=by
 refine ⟨h.1,?_⟩;rcases h.2 with h' | ⟨g,cap,cur,rfl,hg,rest⟩
 ·exact .inl h'
 ·exact .inr ⟨g,cap,cur,rfl,oI hb hg,rest⟩
theorem Z0K {c:Nat} {m:List (List Rat)} {ld:List Nat} {d:Rat} (h:fC m c (m.length-ld.length) ld.length=m.length):bI c ⟨m,ld,d⟩=⟨m,ld,0⟩:=by
 unfold bI;exact if_pos h
theorem Z0L {c a:Nat} {m m1:List (List Rat)} {ld:List Nat} {d d1 f:Rat} {r:List Rat} (h:fC m c (m.length-ld.length) ld.length=a) (ha:a≠m.length) (hm:m1=if a=ld.length then m else bK m ld.length a) (hd:d1=if a=ld.length then d else -d) (hr:r=cQ m1 ld.length) (hf:f=aH m1 ld.length c) :
  bI c ⟨m,ld,d⟩=⟨da (m1.set ld.length (dV r f)) (dV r f) c ld.length (m1.set ld.length (dV r f)).length,ld++[c],d1*f⟩:=by
 subst h hf hr hm hd;unfold bI;exact if_neg ha
theorem Z1q {m:List (List Rat)} {k a c:Nat} (hk:k<m.length) (ha:a<m.length):aH (if a=k then m else bK m k a) k c=aH m a c:=by
 by_cases e:a=k
 ·rw [if_pos e,e]
 ·rw [if_neg e];unfold aH;rw [ng (m:=bK m k a) (i:=k) (r:=cQ m a)];rw [fJ (iH hk) (iH ha),if_neg (fun x=>e x.symm),if_pos rfl]
theorem X6_ {P:Program} {fn:Func} {p s:Tmp} {ty:TypeId} (h:fn.results=#[.tmp s,.cell p ty]) (tmps:Array Value) (w:World) (g:Nat) (t:TypeId) (cs:Array Value) (fr:Nat×Nat) (d:TypeDesc) (v:Value)
  (hp:tmps.getD p undef=.pointer (some ⟨g,0,none⟩)) (hs:tmps.getD s undef=v) (hg:w.heap[g]?=some (.cells cs t fr))
  (hu:P.underlying ty=some d) (hd:(match d with | .struct _ | .array _ _=>true | _=>false)=true) (hi:(P.info? ty).map (·.size)=some cs.size) :
  (results fn tmps).run P w=.ok (.tuple #[v,.agg cs]) w:=by
 have rF:tmps[p]?.getD undef=.pointer (some ⟨g,0,none⟩):=by simpa using hp
 have tR:tmps[s]?.getD undef=v:=by simpa using hs
 simp [results,h,rF,tR,asAddr,run_loadVar_row w g t ty cs fr d hg hu hd hi]
theorem ni {α:Type} {l:List α} {i:Nat} {a:α} (h:l[i]?=some a):l.set i a=l:=by
 apply List.ext_getElem?;intro j;rw [oV];by_cases e:i=j
 ·subst e;rw [if_pos rfl,if_pos (n_.1 h).1,h]
 ·rw [if_neg e]
theorem w4_ {α:Type} {l:List α} {i:Nat} {a b:α} (h:l[i]?=some a):(l.set i b)[i]?=some b:=by
 rw [oV,if_pos rfl,if_pos (n_.1 h).1]
theorem cZ.setEl {w0 wr:World} {g0 D:Nat} {oZ:List (Nat×Nat)} {m:List (List Rat)} {d:Rat} {v:Value} {ld:List Nat} {tags:List (Nat×Nat)} (h:cZ w0 wr g0 D oZ m d v ld tags) (hb:∀ b,bZ g0 tags b->b<D)
  {i j:Nat} {t:Nat×Nat} {r:List Rat} (ht:tags[i]?=some t) (hr:m[i]?=some r) (hj:j<r.length) (q:Rat) :
  cZ w0 ((wr.setCell ⟨t.1,j*2,none⟩ (.string (aD q.num))).setCell ⟨t.1,j*2+1,none⟩ (.string (aE q.den))) g0 D oZ (m.set i (r.set j q)) d v ld tags /\
   ∀ F x,dE wr F x->D<=F->dE ((wr.setCell ⟨t.1,j*2,none⟩ (.string (aD q.num))).setCell ⟨t.1,j*2+1,none⟩ (.string (aE q.den))) F x:=by
 have hgr:aP (·=t.1) wr ((wr.setCell ⟨t.1,j*2,none⟩ (.string (aD q.num))).setCell ⟨t.1,j*2+1,none⟩ (.string (aE q.den))):=((aP.refl (·=t.1) wr).store (S:=(·=t.1)) rfl _ _).store (S:=(·=t.1)) rfl _ _;obtain ⟨t',qv,-,-,-,hR,hne,hbq⟩:=h.mat.get hr;obtain rfl:t'=t:=oL (qv.symm.trans ht);have hlt:=hb _ hbq
 exact ⟨⟨h.mat.setRow ht hr (by rw [List.length_set]) hgr (hR.set j hj q),h.box.grown hgr (fun e=>by omega),h.lead.grown hgr (fun b e=>by omega),h.same,h.grown.trans (hgr.weak fun b _ e=>by rw [e];exact (h.same _).1 hbq),by rw [dX,dX];exact h.size⟩,
  fun F x hF hDF=>hF.grown hgr (fun e=>by omega)⟩
theorem cZ.push {w0 wr w':World} {g0 D:Nat} {oZ:List (Nat×Nat)} {m:List (List Rat)} {d:Rat} {v v':Value} {ld ld':List Nat} {tags:List (Nat×Nat)} (h:cZ w0 wr g0 D oZ m d v ld tags) (hb:∀ b,bZ g0 tags b->b<D) (hD:w0.heap.size<=D)
  (hB:Below (D+1) wr w') (hv:ck (D+1) w' v' ld'):cZ w0 w' g0 D oZ m d v' ld' tags:=by
 have hgr:aP (fun b=>D+1<=b) wr w':=⟨hB.os,hB.tape,hB.output,hB.size,fun k hk hn=>hB.block k (by omega)⟩;exact ⟨h.mat.grown hgr (fun b qx e=>by have:=hb b qx;omega),h.box.grown hgr (fun e=>by omega),hv,h.same,S1_ h.grown hgr (fun b e=>.inl (by omega)),oH h.size hB.size⟩
theorem Z0E (m0:List (List Rat)) (g0 tm n C:Nat) (oZ:List (Nat×Nat)) (wb w:World) (hM:dH w g0 oZ m0) (hC:bg C m0) (hn:n<=C) (By:C<=1000) (hl:m0.length<=1000) (qb:m0.length<=tm) (qa:tm<=9223372036854775807)
  (hok:∀ c,c<n->h_ 2500 (aj m0 c).m/\RS 9000 (aj m0 c).det) (tC:aC wb w) (ht:af wb) (re:∀ b,bZ g0 oZ b->wb.heap.size<=b) :
  Calls prog 109 #[.slice (some ⟨g0,0,none⟩) m0.length tm,.int .i64 n] w fun e w'=>∃ v tags,e=.returned (.tuple #[v,bW (aj m0 n).det])/\ck w.heap.size w' v (aj m0 n).lead/\dH w' g0 tags (aj m0 n).m/\(∀ b,bZ g0 tags b↔bZ g0 oZ b)/\aP (bZ g0 oZ) w w':=by
 have HM:=n8 hM;have HC:=n8 hC;have HOK:=n8 hok;have HWB:=n8 tC;have HT:=n8 ht;have HBL:=n8 re;have HSH:=n8 (lP hC);obtain ⟨L,hL⟩:∃ L,L=m0.length:=⟨_,rfl⟩;rw [<- hL] at hl qb HSH |-;have HL:=n8 hL;obtain ⟨W1,rU,hE1,hs1,hb1⟩:=dr w (.string ⟨#[]⟩) (.string ⟨#[]⟩) 152;have HE1:=n8 hE1;have HB1:Hid (∀ W,aC W1 W->ah w.heap.size W):=fun W hW=>ah.ext ⟨_,_,hb1⟩ hW;have HS1:=n8 hs1;have HBW:Hid (∀ b,bZ g0 oZ b->b<w.heap.size):=fun b hb=>hM.blt hb;obtain ⟨r0,r1,rf⟩:=dp hb1;clear hM hC hok tC ht re hL hE1 hs1 hb1 rf
 go_enter func109,ntmps109
 go_wp2_with fail;refine (b0_ _).mono ?_;rintro e w2 ⟨rfl,oY⟩;have HE2:=n8 oY;obtain ⟨q0,q1,t0,t1,f0,f1⟩:=(HB1 _ oY).open;have hbx:=(HB1 _ oY);rw [x5_];have zi:Hid (mc w ((w2.setCell ⟨w.heap.size,0,none⟩ (.string ⟨#[49]⟩)).setCell ⟨w.heap.size,1,none⟩ (.string ⟨#[49]⟩)) g0 w.heap.size oZ m0 0 (.slice none 0 0) oZ):=by
  have hgr:aP (·=w.heap.size) w2 ((w2.setCell ⟨w.heap.size,0,none⟩ (.string ⟨#[49]⟩)).setCell ⟨w.heap.size,1,none⟩ (.string ⟨#[49]⟩)):=((aP.refl (·=w.heap.size) w2).store (S:=(·=w.heap.size)) rfl _ _).store (S:=(·=w.heap.size)) rfl _ _;refine ⟨(HM.ext (HE1.trans oY)).grown hgr (fun b hb e=>by have:=HBW b hb;omega),?_,ck.nil _ _,fun b=>Iff.rfl,?_,?_⟩
  ·have:=hbx.res (x:=.string ⟨#[49]⟩) (y:=.string ⟨#[49]⟩);unfold dE;rw [this];show some (Obj.cells #[.string ⟨#[49]⟩,.string ⟨#[49]⟩] 152 (0,0))=some (Obj.cells #[.string (aD 1),.string (aE 1)] 152 (0,0));rw [nJ,lI]
  ·exact S1_ ((HE1.trans oY).grownS _) hgr (fun b hb=>.inl (by omega))
  ·rw [dX,dX];have:=oY.size;have:=HS1.out;omega
 clear oY hbx r0 r1;go_wp2_with fail;clear q0 q1 t0 t1 f0 f1
 go_loopw [16,4] (fun t v wr=>∃ (c:Nat) (tags:List (Nat×Nat)),c<=n/\t=.int .i64 c/\Hid (mc w wr g0 w.heap.size oZ m0 c v tags)) (fun t _ _=>n-(intOf t).toNat)
 case atStart=>exact ⟨0,oZ,by omega,rfl,zi⟩
 case round =>
  obtain ⟨c,tags,hc,rfl,HR⟩:=hrel;obtain ⟨wo,rfl⟩:∃ wo:World,wo=wr:=⟨_,rfl⟩;clear zi HE2;have HP:=n8 (HR.grown);have KZ:Hid (aC wb wo):=Below.trans HWB (HR.grown.belowE (B:=wb.heap.size) HBL HWB.size);obtain ⟨av,cv,hv,hv1,pt⟩:=HR.lead.form;obtain ⟨k,hk⟩:∃ k,k=(aj m0 c).lead.length:=⟨_,rfl⟩;rw [<- hk] at hv hv1;have HK:=n8 hk;have EZ:k<=L:=by rw [hk];exact (HSH c).2.2
  subst hv;clear hk;by_cases hlt:c<n
  ·obtain ⟨hA,hD⟩:=HOK c hlt;have HA:=n8 hA;have HD:=n8 hD;obtain ⟨m,hm⟩:∃ m,m=(aj m0 c).m:=⟨_,rfl⟩;obtain ⟨d,hd⟩:∃ d,d=(aj m0 c).det:=⟨_,rfl⟩;obtain ⟨ld,vJ⟩:∃ ld,ld=(aj m0 c).lead:=⟨_,rfl⟩;have HMM:=HR.mat;have HBB:=HR.box;have HLD:=HR.lead;rw [<- hm] at HMM HA;rw [<- hd] at HBB HD;rw [<- vJ] at HLD HK;have HMM:=n8 HMM;have HBB:=n8 HBB;have HLD:=n8 HLD;have HRC:Hid (bg C m/\m.length=L):=by unfold Hid;rw [hm];exact ⟨(HSH c).1,(HSH c).2.1⟩
   have HST:Hid (aj m0 (c+1)=bI c ⟨m,ld,d⟩):=by unfold Hid;rw [hm,hd,vJ];rfl
   have HSAME:=n8 HR.same;have HDS:=n8 HR.size;have Ez:Hid (∀ b,bZ g0 tags b->b<w.heap.size):=fun b hb=>HBW b ((HR.same b).1 hb);clear hm hd vJ hA hD HR;go_wp2_with fail
   go_loopw [7] (fun t wr=>∃ a:Nat,t=.int .i64 a/\k<=a/\a<=L/\Hid (∀ j,k<=j->j<a->aH m j c=0)/\Hid (aC wo wr)) (fun t _=>L-(intOf t).toNat)
   case atStart=>exact ⟨k,rfl,by omega,EZ,(fun j h1 h2=>by omega),aC.refl _⟩
   case round =>
    obtain ⟨a,rfl,Bd,DJ,HZ,HE⟩:=hrel;obtain ⟨wi,rfl⟩:∃ wi:World,wi=wr:=⟨_,rfl⟩;by_cases pN:a<L
    ·have hr:m[a]?=some (cQ m a):=iH (by have:=HRC.2;omega);obtain ⟨t,ht,c1,h1,h2,hrow,hne,hbq⟩:=HMM.get hr;have hrl:=HRC.1.get hr;have hcl:c<(cQ m a).length:=by omega
     have hx:(cQ m a)[c]?=some (aH m a c):=by rw [z2_ (n9 hcl)];exact n9 hcl
     have g1:=HE.cell c1;have g2:=HE.cell (hrow.num c _ hx);have g3:=HE.cell (hrow.den c _ hx);have HRL:=n8 hrl;rw [hrl] at g1 h1;have JN:c<C:=by omega
     have HSG:Hid (∀ W,oW 160 #[.agg #[.string (aD (aH m a c).num),.string (aE (aH m a c).den)]] W (.int .i64 (aH m a c).num.sign)):=fun W=>U8_ (aH m a c) W;have hsz:=S9_ (aH m a c);clear hr ht c1 hrow hne hbq hrl hcl hx;by_cases pE:aH m a c=0
     ·have HZ2:Hid (∀ j,k<=j->j<a+1->aH m j c=0):=fun j h1 h2=>by
       by_cases e:j=a
       ·rw [e];exact pE
       ·exact HZ j h1 (by omega)
      rw [oS pE] at hsz;obtain ⟨sg,vE⟩:∃ sg,sg=(aH m a c).num.sign:=⟨_,rfl⟩;rw [<- vE] at HSG hsz;clear pE vE;go_wp2_with fail;refine (HSG _).mono ?_;rintro e w3 ⟨rfl,oh⟩;have HE3:=n8 (aC.trans HE oh);clear oh HSG g1 g2 g3;go_wp2_with fail;go_roundw
      case rel=>exact ⟨a+1,by go_num,by omega,by omega,HZ2,HE3⟩
      case measure=>simp [intOf];omega
     ·rw [oR pE] at hsz;obtain ⟨sg,vE⟩:∃ sg,sg=(aH m a c).num.sign:=⟨_,rfl⟩;rw [<- vE] at HSG hsz;have HX0:=n8 pE;clear pE vE;have yl:¬ a=L:=by omega
      go_wp2_with fail;refine (HSG _).mono ?_;rintro e w3 ⟨rfl,oh⟩;have HE3:=n8 (aC.trans HE oh);clear oh HSG g1 g2 g3 HE;have HMID:Hid (cZ w w3 g0 w.heap.size oZ m d (.slice av k cv) ld tags) :=
       ⟨HMM.ext HE3,HBB.ext HE3,HLD.ext HE3,HSAME,HP.trans (HE3.grownS _),oH HDS HE3.size⟩
      have L5:((a:Int) == (L:Int))=false:=by rw [beq_eq_false_iff_ne];omega
      obtain ⟨bak,sK⟩:∃ b,((a:Int) != (k:Int))=b:=⟨_,rfl⟩
      have A6:Hid (a≠k->∀ W,aC w3 W->∃ s t,tags[k]?=some s/\tags[a]?=some t/\W.cell? ⟨g0,k,none⟩=some (.slice (some ⟨s.1,0,none⟩) C s.2)/\W.cell? ⟨g0,a,none⟩=some (.slice (some ⟨t.1,0,none⟩) C t.2)/\W.frozen? ⟨g0,k,none⟩=false/\W.frozen? ⟨g0,a,none⟩=false/\C<=s.2/\C<=t.2/\s.2<=9223372036854775807/\t.2<=9223372036854775807 /\
        cZ w ((W.setCell ⟨g0,k,none⟩ (.slice (some ⟨t.1,0,none⟩) C t.2)).setCell ⟨g0,a,none⟩ (.slice (some ⟨s.1,0,none⟩) C s.2)) g0 w.heap.size oZ (bK m k a) d (.slice av k cv) ld (bK tags k a)/\(∀ b,bZ g0 (bK tags k a) b->b<w.heap.size)):=by
       intro hne W hW;have hmid:=HMID.ext hW;have hk2:m[k]?=some (cQ m k):=iH (by have:=HRC.2;omega);have ha2:m[a]?=some (cQ m a):=iH (by have:=HRC.2;omega);obtain ⟨s,hs,c1,h1,h2,-⟩:=hmid.mat.get hk2;obtain ⟨t,ht,c3,h3,h4,-⟩:=hmid.mat.get ha2;have e1:=HRC.1.get hk2;have e2:=HRC.1.get ha2;have hsw:=hmid.mat.swap hs ht hk2 ha2;rw [e1] at c1 h1 hsw;rw [e2] at c3 h3 hsw;have hgr:aP (·=g0) W ((W.setCell ⟨g0,k,none⟩ (.slice (some ⟨t.1,0,none⟩) C t.2)).setCell ⟨g0,a,none⟩ (.slice (some ⟨s.1,0,none⟩) C s.2)):=((aP.refl (·=g0) W).store (S:=(·=g0)) rfl _ _).store (S:=(·=g0)) rfl _ _;have yC:bZ g0 oZ g0:=List.mem_cons_self ..;have hgl:=HBW g0 yC;refine ⟨s,t,hs,ht,c1,c3,hmid.mat.free k,hmid.mat.free a,h1,h3,h2,h4,⟨hsw,hmid.box.grown hgr (fun e=>by omega),hmid.lead.grown hgr (fun b e=>by omega),fun b=>(V7_ hs ht).trans (hmid.same b),hmid.grown.trans (hgr.weak fun b _ e=>by rw [e];exact yC),by rw [dX,dX];exact hmid.size⟩,fun b hb=>HBW b ((hmid.same b).1 ((V7_ hs ht).1 hb))⟩
      have HBK:=n8 sK
      go_upto_if 47 with (fail)
      go_cut [] from 48 to 63 (fun wx=>Hid (∃ oo,cZ w wx g0 w.heap.size oZ (if a=k then m else bK m k a) (if a=k then d else -d) (.slice av k cv) ld oo))
      case first =>
       by_cases qy:a=k
       ·have hb:bak=false:=by rw [<- HBK.out,qy];simp
        have HF:Hid (∃ oo,cZ w w3 g0 w.heap.size oZ (if a=k then m else bK m k a) (if a=k then d else -d) (.slice av k cv) ld oo):=by
         rw [if_pos qy,if_pos qy];exact ⟨tags,HMID⟩
        clear HBK sK qy A6;subst hb;go_wp2_with fail;go_meet;exact HF
       ·have hb:bak=true:=by rw [<- HBK.out];simp;omega
        have Fu:¬ k=a:=fun e=>qy e.symm;obtain ⟨s,t,hs,ht,c1,c3,f1,f3,h1,h3,h2,h4,hmid,Ac⟩:=A6 qy w3 (aC.refl _);have HM3:=n8 (hmid.ext (aC.drew _));have HBK2:=n8 Ac;obtain ⟨b0,b1,b2,b3⟩:=HM3.box.cells;have Dr:Hid (∀ W,oW 162 #[.agg #[.string (aD d.num),.string (aE d.den)]] W (.agg #[.string (aD (-d).num),.string (aE (-d).den)])):=fun W=>C6_ d W (HD.mono (by omega));clear hmid Ac;have kL:k<L:=by omega
        clear HBK sK;subst hb;go_wp2_with fail
        go_region
        all_goals
         go_wp2_with fail;refine (Dr _).mono ?_;rintro e w5 ⟨rfl,ou⟩;have HM5:=n8 (HM3.ext ou);obtain ⟨d0,d1,d2,d3⟩:=HM5.box.cells;have HF:=n8 (HM5.setBox HBK2 (oJ _) (-d));clear ou Dr b0 b1 b2 b3;go_wp2_with fail;go_meet;rw [if_neg qy,if_neg qy];exact ⟨_,HF⟩
      case rest =>
       have HHC:=n8 hcut;obtain ⟨oo,rH⟩:=HHC.out.out;clear hcut HHC HBK HMID A6 HE3;obtain ⟨m1,hm1⟩:∃ m1,m1=if a=k then m else bK m k a:=⟨_,rfl⟩
       obtain ⟨d1,qf⟩:∃ d1,d1=if a=k then d else -d:=⟨_,rfl⟩
       rw [<- hm1,<- qf] at rH;have HM1:=n8 rH;have qT:Hid (bg C m1/\m1.length=L):=by
        unfold Hid;rw [hm1];split
        ·exact HRC
        ·exact ⟨HRC.1.swp _ _,by rw [iQ];exact HRC.2⟩
       have HA1:Hid (h_ 2500 m1):=by
        unfold Hid;rw [hm1];split
        ·exact HA
        ·exact HA.swp _ _
       have HD1:Hid (RS 9001 d1):=by
        unfold Hid;rw [qf];split
        ·exact HD.mono (by omega)
        ·exact Z60 HD
       have I6:k<m.length:=by rw [HRC.out.2];omega
       have JS:a<m.length:=by rw [HRC.out.2];omega
       obtain ⟨f,hf⟩:∃ f,f=aH m1 k c:=⟨_,rfl⟩;obtain ⟨r,hr⟩:∃ r,r=cQ m1 k:=⟨_,rfl⟩;have CJ:Hid (f≠0):=by unfold Hid;rw [hf,hm1,Z1q I6 JS];exact HX0
       have HRK:Hid (m1[k]?=some r/\r.length=C/\r[c]?=some f):=by
        have h1:m1[k]?=some r:=by rw [hr];exact iH (by rw [qT.out.2];omega)
        have h2:=qT.1.get h1;refine ⟨h1,h2,?_⟩;have hcl:c<r.length:=by omega
        rw [hf,z2_ (x:=r[c]) (by rw [<- hr];exact n9 hcl)];exact n9 hcl
       have HNX:Hid (aj m0 (c+1)=⟨da (m1.set k (dV r f)) (dV r f) c k L,ld++[c],d1*f⟩):=by
        unfold Hid;have hkl:=HK.out;rw [HST.out,Z0L (a:=a) (m1:=m1) (d1:=d1) (r:=r) (f:=f) ?_ ?_ ?_ ?_ ?_ ?_,List.length_set,<- hkl,qT.out.2]
        ·rw [HRC.out.2,<- hkl];exact z4_ m c _ k a Bd (by omega) HZ (fun _=>HX0)
        ·rw [HRC.out.2];exact yl
        ·rw [<- hkl];exact hm1
        ·rw [<- hkl];exact qf
        ·rw [<- hkl];exact hr
        ·rw [<- hkl];exact hf
       have AR:k<L:=by omega
       have JN:c<C:=by omega
       clear rH hm1 qf hf hr I6 JS HMM HBB HLD HA HD HRC HST HX0 HZ hsz HDS HOK Bd pN DJ yl L5 sK;have KY:Hid (aC wb wc):=Below.trans HWB (HM1.grown.belowE (B:=wb.heap.size) HBL HWB.size);have vD:Hid (∀ b,bZ g0 oo b->b<w.heap.size):=fun b hb=>HBW b ((HM1.same b).1 hb);obtain ⟨dd,yE⟩:∃ dd,dd=d1*f:=⟨_,rfl⟩;rw [<- yE] at HNX;have tw:Hid (∀ W,aC wc W->oW 163 #[.agg #[.string (aD d1.num),.string (aE d1.den)],.agg #[.string (aD f.num),.string (aE f.den)]] W (.agg #[.string (aD dd.num),.string (aE dd.den)])):=fun W hW=>by
        rw [yE];exact C5_ d1 f W (HD1.mono (by omega)) ((HA1.get HRK.1 HRK.2.2).mono (by omega)) (HT.ext (KY.trans hW))
       obtain ⟨t,ht,c1,h1,h2,hrow,hne,hbq⟩:=HM1.mat.get HRK.1;rw [HRK.out.2.1] at c1 h1;have g2:=hrow.num c f HRK.2.2;have g3:=hrow.den c f HRK.2.2;have xg:Hid (oo[k]?=some t):=ht;obtain ⟨W4,DL,hE4,hs4,th⟩:=dr wc (.string (aD f.num)) (.string (aE f.den)) 152;have HE4:=n8 hE4;have hDF:=HM1.size;have HB4:Hid (∀ W,aC W4 W->dE W wc.heap.size f):=fun W hW=>aO th hW;obtain ⟨e0,e1,e2,e3⟩:=(HB4 W4 (aC.refl _)).cells;obtain ⟨b0,b1,b2,b3⟩:=(HM1.ext hE4).box.cells;clear ht hrow hne hbq hE4 hs4 th yE
       go_upto_region 15 with (fail)
       obtain ⟨wq,rfl⟩:∃ wq:World,wq=wc:=⟨_,rfl⟩
       go_cut [] from 71 to 73 (fun wx=>Hid (cZ w wx g0 w.heap.size oZ m1 dd (.slice av k cv) ld oo)/\Hid (dE wx wq.heap.size f))
       case first =>
        clear c1 g2 g3;go_wp2_with fail;refine (tw _ HE4).mono ?_;rintro e w5 ⟨rfl,ou⟩;have HM5:=n8 (HM1.ext (HE4.trans ou));have HBF:=HB4 _ ou;have HF:=n8 (HM5.setBox vD (oJ _) dd);have HG:=n8 (HBF.grown (S:=(·=w.heap.size)) (((aP.refl (·=w.heap.size) w5).store (S:=(·=w.heap.size)) rfl 0 (.string (aD dd.num))).store (S:=(·=w.heap.size)) rfl 1 (.string (aE dd.den))) (by omega));clear b0 b1 b2 b3 e0 e1 e2 e3 HBF ou;obtain ⟨b0,b1,b2,b3⟩:=HM5.box.cells;go_wp2_with fail;go_meet;exact ⟨HF,HG⟩
       case rest =>
       obtain ⟨HM6,D8⟩:=hcut;have G1:w.heap.size<=wq.heap.size:=by omega
       clear HM1 HE4 HB4 tw c1 g2 g3 b0 b1 b2 b3 e0 e1 e2 e3 DL KY;obtain ⟨t',qv,c1,-,-,-⟩:=HM6.mat.get HRK.1;obtain rfl:t=t':=oL (xg.symm.trans qv);rw [HRK.out.2.1] at c1;clear qv;go_wp2_with fail;clear c1
       go_loopw [79] (fun tv wr=>∃ j:Nat,tv=.int .i64 j/\j<=C/\Hid (cZ w wr g0 w.heap.size oZ (m1.set k (dM (dV r f) r j)) dd (.slice av k cv) ld oo)/\Hid (dE wr wq.heap.size f)) (fun tv _=>C-(intOf tv).toNat)
       case atStart=>exact ⟨0,rfl,by omega,by unfold Hid;rw [P9_,ni HRK.out.1];exact HM6,D8⟩
       case round =>
        obtain ⟨j,rfl,Lb,qH,CN⟩:=hrel;obtain ⟨wj,rfl⟩:∃ wj:World,wj=wr:=⟨_,rfl⟩;clear HM6 D8;have yL:Hid ((dV r f).length=r.length):=W8_ r f;by_cases hj:j<C
        ·have hrl:=HRK.2.1;obtain ⟨x,hx⟩:∃ x,r[j]?=some x:=⟨_,n9 (by omega)⟩;have hP:(m1.set k (dM (dV r f) r j))[k]?=some (dM (dV r f) r j):=w4_ HRK.1;have wL:(dM (dV r f) r j).length=C:=by rw [I5_ _ _ _ yL.out];exact HRK.2.1
         have hPx:=I4_ yL (oJ j) hx;obtain ⟨t',qv,c1,-,-,hrow,-⟩:=qH.mat.get hP;obtain rfl:t=t':=oL (xg.symm.trans qv);rw [wL] at c1;have g2:=hrow.num j x hPx;have g3:=hrow.den j x hPx;obtain ⟨e0,e1,-,-⟩:=CN.cells;obtain ⟨q,hq⟩:∃ q,q=x / f:=⟨_,rfl⟩;have CL:Hid (aC wb wj):=Below.trans HWB (qH.grown.belowE (B:=wb.heap.size) HBL HWB.size);have IK:Hid (∀ W,aC wj W->oW 164 #[.agg #[.string (aD x.num),.string (aE x.den)],.agg #[.string (aD f.num),.string (aE f.den)]] W (.tuple #[.agg #[.string (aD q.num),.string (aE q.den)],.int .i64 0])):=fun W hW=>by
          rw [hq];exact Z0z x f W ((HA1.get HRK.1 hx).mono (by omega)) ((HA1.get HRK.1 HRK.2.2).mono (by omega)) CJ (HT.ext (CL.trans hW))
         have s9:Hid (∀ W,aC wj W->cZ w ((W.setCell ⟨t.1,j*2,none⟩ (.string (aD q.num))).setCell ⟨t.1,j*2+1,none⟩ (.string (aE q.den))) g0 w.heap.size oZ (m1.set k (dM (dV r f) r (j+1))) dd (.slice av k cv) ld oo/\dE ((W.setCell ⟨t.1,j*2,none⟩ (.string (aD q.num))).setCell ⟨t.1,j*2+1,none⟩ (.string (aE q.den))) wq.heap.size f):=fun W hW=>by
          have hn:=(qH.ext hW).setEl vD xg hP (j:=j) (by rw [wL];exact hj) q;rw [List.set_set,I6_ yL.out (by rw [hq];exact Z00 hx)] at hn;exact ⟨hn.1,hn.2 _ _ (CN.ext hW) G1⟩
         have HFR:Hid (∀ W,aC wj W->W.frozen? ⟨t.1,j*2,none⟩=false/\W.frozen? ⟨t.1,j*2+1,none⟩=false):=fun W hW=>⟨(hrow.ext hW).free _,(hrow.ext hW).free _⟩
         clear qv hP wL hPx hrow hx hq hrl;go_wp2_with fail;refine iP (fun w'=>w'.cell? ⟨g0,k,none⟩=some (.slice (some ⟨t.1,0,none⟩) C t.2)/\w'.cell? ⟨t.1,j*2,none⟩=some (.string (aD x.num))/\w'.cell? ⟨t.1,j*2+1,none⟩=some (.string (aE x.den))/\w'.cell? ⟨wq.heap.size,0,none⟩=some (.string (aD f.num))/\w'.cell? ⟨wq.heap.size,1,none⟩=some (.string (aE f.den))/\Hid (aC wj w')) 18 (by kernel_rfl) ⟨(aC.drew wj).cell c1,(aC.drew wj).cell g2,(aC.drew wj).cell g3,(aC.drew wj).cell e0,(aC.drew wj).cell e1,aC.drew wj⟩ (fun oX=>?_);refine rA [0,1,2,3,4,5,6,7,8,9,10,11,12] ?_
         iterate 13 ((first|(refine rL (v:=?_) (by rfl) (Or.inl ⟨by rfl,?_⟩) ?_;rotate_left;·((intro w' oz);(try dsimp only at oz);(try go_simp);(try with_reducible rfl)))|(refine rW (v:=?_) (by rfl) (Or.inl ⟨by rfl,?_⟩) ?_;rotate_left;·((intro w');(try go_simp);(try with_reducible rfl))));(try simp only [Act.put,aK,aL,aM]))
         refine rE ?_;refine dO 13 (by kernel_rfl) rfl (fun K hK=>?_);go_simp
         (go_at_call 164;refine (IK _ oX.2.2.2.2.2).mono ?_)
         rintro e w5 ⟨rfl,ou⟩;go_wp2_with fail;refine hK _ _ (⟨ou.cell oX.1,ou.cell oX.2.1,ou.cell oX.2.2.1,ou.cell oX.2.2.2.1,ou.cell oX.2.2.2.2.1,aC.trans oX.2.2.2.2.2 ou⟩) (fun oX=>?_);clear hK K
         (try simp only [Act.put,aK,aL,aM])
         refine rA [14,15,16,17] ?_
         iterate 4 (refine rW (v:=?_) (by rfl) (Or.inl ⟨by rfl,?_⟩) ?_;rotate_left;·((intro w');(try go_simp);(try with_reducible rfl));(try simp only [Act.put,aK,aL,aM]))
         refine rE ?_;have z1:=oX.2.1;have z2:=oX.2.2.1;have z3:=HFR _ oX.2.2.2.2.2;obtain ⟨z4,z5⟩:=z3;have HM7:=s9 _ oX.2.2.2.2.2;refine fL 18 (by kernel_rfl) (by kernel_rfl) (by kernel_rfl) rfl (fun K hK=>?_);go_simp;refine hK _ _ ?_;clear hK K
         (try simp only [Act.put,aK,aL,aM])
         go_wp2_with fail;go_roundw
         case rel=>exact ⟨j+1,by go_num,by omega,HM7.1,HM7.2⟩
         case measure=>simp [intOf];omega
        ·have Du:Hid (cZ w wj g0 w.heap.size oZ (m1.set k (dV r f)) dd (.slice av k cv) ld oo):=by
          have h8:=qH.out;rw [I3_ _ _ _ yL.out (by rw [HRK.out.2.1];omega)] at h8;exact h8
         obtain ⟨p,hp⟩:∃ p,p=dV r f:=⟨_,rfl⟩;have NJ:Hid (∀ (j:Nat) y,p[j]?=some y->RS 5002 y):=by
          intro j y hy;rw [hp] at hy;unfold dV at hy;rw [oE] at hy;obtain ⟨x,hx,rfl⟩:=Option.map_eq_some_iff.1 hy;exact (Z4Q (HA1.get HRK.1 hx) (HA1.get HRK.1 HRK.2.2) CJ).mono (by omega)
         have HPL:Hid (p.length=C):=by unfold Hid;rw [hp,W8_];exact HRK.2.1
         rw [<- hp] at Du HNX;obtain ⟨m2,wH⟩:∃ m2,m2=m1.set k p:=⟨_,rfl⟩;rw [<- wH] at Du HNX;have BC:Hid (bg C m2/\m2.length=L):=by unfold Hid;rw [wH];exact ⟨qT.1.set _ HPL,by rw [List.length_set];exact qT.2⟩
         have KO:Hid (m2[k]?=some p):=by unfold Hid;rw [wH];exact w4_ HRK.1
         have tN:Hid (∀ (i j:Nat) ri x,i≠k->m2[i]?=some ri->ri[j]?=some x->RS 2500 x):=by
          intro i j ri x hik qD hx;rw [wH,oV,if_neg (fun e=>hik e.symm)] at qD;exact HA1.get qD hx
         obtain ⟨tk,tQ,c2,rq,hk2,-⟩:=Du.mat.get KO;obtain rfl:t=tk:=oL (xg.symm.trans tQ);clear tQ c2 hp wH qH CN yL qT HA1 HD1 CJ HRK;go_wp2_with fail
         go_loopw [103] (fun tv wr=>∃ i:Nat,tv=.int .i64 i/\i<=L/\Hid (cZ w wr g0 w.heap.size oZ (da m2 p c k i) dd (.slice av k cv) ld oo)) (fun tv _=>L-(intOf tv).toNat)
         case atStart=>exact ⟨0,rfl,by omega,Du⟩
         case round =>
          obtain ⟨i,rfl,I7,HMI⟩:=hrel;obtain ⟨wi,rfl⟩:∃ wi:World,wi=wr:=⟨_,rfl⟩;clear Du;by_cases hi:i<L
          ·obtain ⟨M,hM⟩:∃ M,M=da m2 p c k i:=⟨_,rfl⟩;obtain ⟨ri,qD⟩:∃ ri,ri=cQ M i:=⟨_,rfl⟩;have Ek:M.length=L:=by rw [hM,kF];exact BC.2
           have yH:M[i]?=some ri:=by rw [qD];exact iH (by omega)
           have Ce:bg C M:=by rw [hM];exact BC.1.elim HPL c k i (by rw [BC.out.2];omega)
           have hril:=Ce.get yH;have KR:Hid (m2[i]?=some ri):=by unfold Hid;rw [<- V0_ m2 p c k i i (oJ _),<- hM];exact yH
           have M5:Hid (M[k]?=some p):=by unfold Hid;rw [hM,N0_];exact KO
           have rP:Hid (da m2 p c k (i+1)=M.set i (ie p c k i ri)):=by unfold Hid;rw [qD,hM];rfl
           obtain ⟨x,hx⟩:∃ x,ri[c]?=some x:=⟨_,n9 (by omega)⟩;have KH:Hid (ri.getD c 0=x):=by unfold Hid;rw [oC,hx];rfl
           rw [<- hM] at HMI;obtain ⟨ti,y9,c1,sR,hi2,hrow,hne,hbq⟩:=HMI.mat.get yH;rw [hril] at c1 sR;have xf:Hid (oo[i]?=some ti):=y9;have g2:=hrow.num c x hx;have g3:=hrow.den c x hx;have HRI:Hid (M[i]?=some ri/\ri.length=C/\ri[c]?=some x):=⟨yH,hril,hx⟩;obtain ⟨W9,N9,xX,LB,JQ⟩:=dr wi (.string (aD x.num)) (.string (aE x.den)) 152;have HE9:=n8 xX;have yz:Hid (∀ W,aC W9 W->dE W wi.heap.size x):=fun W hW=>aO JQ hW;have G2:w.heap.size<=wi.heap.size:=by have:=HMI.size;omega
           obtain ⟨e0,e1,e2,e3⟩:=(yz W9 (aC.refl _)).cells;clear hM qD Ek yH Ce hril hx y9 hrow hne hbq xX LB JQ;by_cases hik:i=k
           ·have hb:((i:Int) == (k:Int))=true:=by rw [hik];exact beq_self_eq_true _
            have sN:Hid (cZ w W9 g0 w.heap.size oZ (da m2 p c k (i+1)) dd (.slice av k cv) ld oo):=by
             unfold Hid;rw [rP.out];unfold ie;rw [if_pos (.inl hik),ni HRI.out.1];exact HMI.ext HE9
            clear hik;go_wp2_with fail;go_roundw
            case rel=>exact ⟨i+1,by go_num,by omega,sN⟩
            case measure=>simp [intOf];omega
           ·have hb:((i:Int) == (k:Int))=false:=by rw [beq_eq_false_iff_ne];omega
            have HIK:=n8 hik;have HSG:Hid (∀ W,oW 160 #[.agg #[.string (aD x.num),.string (aE x.den)]] W (.int .i64 x.num.sign)):=fun W=>U8_ x W;have hsz:=S9_ x;obtain ⟨NP,CZ⟩:∃ sg,sg=x.num.sign:=⟨_,rfl⟩;rw [<- CZ] at HSG hsz;clear CZ hik;by_cases pE:x=0
            ·rw [oS pE] at hsz;have HX0:=n8 pE;clear pE;go_wp2_with fail;refine (HSG _).mono ?_;rintro e w5 ⟨rfl,ou⟩;have sN:Hid (cZ w w5 g0 w.heap.size oZ (da m2 p c k (i+1)) dd (.slice av k cv) ld oo):=by
              unfold Hid;rw [rP.out];unfold ie;rw [if_pos (.inr (KH.out.trans HX0.out)),ni HRI.out.1];exact HMI.ext (HE9.trans ou)
             clear ou HSG c1 g2 g3 e0 e1 e2 e3;go_wp2_with fail;go_roundw
             case rel=>exact ⟨i+1,by go_num,by omega,sN⟩
             case measure=>simp [intOf];omega
            ·rw [oR pE] at hsz;have HX0:=n8 pE;clear pE;go_wp2_with fail;refine (HSG _).mono ?_;rintro e w5 ⟨rfl,ou⟩;have HM9:=n8 (HMI.ext (HE9.trans ou));have HBX9:=n8 (yz _ ou);have A7:Hid (da m2 p c k (i+1)=M.set i (fl ri p x)):=by
              unfold Hid;rw [rP.out];unfold ie;rw [KH.out,if_neg (fun h=>h.elim HIK.out HX0.out)]
             have c1':=(HE9.trans ou).cell c1;have HSL:Hid ((fl ri p x).length=ri.length):=B1_ _ _ _ (by rw [HPL.out,HRI.out.2.1]);clear ou HSG c1 g2 g3 e0 e1 e2 e3;go_wp2_with fail;clear c1'
             go_loopw [126] (fun tv wr=>∃ j:Nat,tv=.int .i64 j/\j<=C/\Hid (cZ w wr g0 w.heap.size oZ (M.set i (dM (fl ri p x) ri j)) dd (.slice av k cv) ld oo)/\Hid (dE wr wi.heap.size x)) (fun tv _=>C-(intOf tv).toNat)
             case atStart=>exact ⟨0,rfl,by omega,by unfold Hid;rw [P9_,ni HRI.out.1];exact HM9,HBX9⟩
             case round =>
              obtain ⟨j,rfl,La,qH,CN⟩:=hrel;obtain ⟨wk,rfl⟩:∃ wk:World,wk=wr:=⟨_,rfl⟩;clear HM9 HBX9;by_cases Lc:j<C
              ·have hrl:=HRI.2.1;have hpl:=HPL.out;obtain ⟨u,hu⟩:∃ u,ri[j]?=some u:=⟨_,n9 (by omega)⟩;obtain ⟨y,hy⟩:∃ y,p[j]?=some y:=⟨_,n9 (by omega)⟩;have hP:(M.set i (dM (fl ri p x) ri j))[i]?=some (dM (fl ri p x) ri j):=w4_ HRI.1;have Br:(M.set i (dM (fl ri p x) ri j))[k]?=some p:=by rw [oV,if_neg HIK.out];exact M5
               have wL:(dM (fl ri p x) ri j).length=C:=by rw [I5_ _ _ _ HSL.out];exact HRI.2.1
               have hPu:=I4_ HSL (oJ j) hu;obtain ⟨t',qv,c1,-,-,hrow,-⟩:=qH.mat.get hP;obtain rfl:ti=t':=oL (xf.symm.trans qv);obtain ⟨t',vV,c2,-,-,rC,-⟩:=qH.mat.get Br;obtain rfl:t=t':=oL (xg.symm.trans vV);rw [wL] at c1;rw [hpl] at c2;have g2:=hrow.num j u hPu;have g3:=hrow.den j u hPu;have y2:=rC.num j y hy;have y3:=rC.den j y hy;obtain ⟨e0,e1,-,-⟩:=CN.cells;obtain ⟨s1,hs1⟩:∃ q,q=x*y:=⟨_,rfl⟩;obtain ⟨q,hq⟩:∃ q,q=u-s1:=⟨_,rfl⟩;have CL:Hid (aC wb wk):=Below.trans HWB (qH.grown.belowE (B:=wb.heap.size) HBL HWB.size);have vz:RS 2500 x:=tN i c ri x HIK KR HRI.2.2;have hys:RS 5002 y:=NJ j y hy;have Ij:RS 2500 u:=tN i j ri u HIK KR hu;have Ds:Hid (∀ W,aC wk W->oW 163 #[.agg #[.string (aD x.num),.string (aE x.den)],.agg #[.string (aD y.num),.string (aE y.den)]] W (.agg #[.string (aD s1.num),.string (aE s1.den)])):=fun W hW=>by
                rw [hs1];exact C5_ x y W (vz.mono (by omega)) (hys.mono (by omega)) (HT.ext (CL.trans hW))
               have pS:Hid (∀ W,aC wk W->oW 165 #[.agg #[.string (aD u.num),.string (aE u.den)],.agg #[.string (aD s1.num),.string (aE s1.den)]] W (.agg #[.string (aD q.num),.string (aE q.den)])):=fun W hW=>by
                rw [hq];exact Z0A u s1 W (Ij.mono (by omega)) (by rw [hs1];exact (Z4T vz hys).mono (by omega)) (HT.ext (CL.trans hW))
               have s9:Hid (∀ W,aC wk W->cZ w ((W.setCell ⟨ti.1,j*2,none⟩ (.string (aD q.num))).setCell ⟨ti.1,j*2+1,none⟩ (.string (aE q.den))) g0 w.heap.size oZ (M.set i (dM (fl ri p x) ri (j+1))) dd (.slice av k cv) ld oo/\dE ((W.setCell ⟨ti.1,j*2,none⟩ (.string (aD q.num))).setCell ⟨ti.1,j*2+1,none⟩ (.string (aE q.den))) wi.heap.size x):=fun W hW=>by
                have hn:=(qH.ext hW).setEl vD xf hP (j:=j) (by rw [wL];exact Lc) q;rw [List.set_set,I6_ HSL.out (by rw [hq,hs1];exact Z0M hu hy)] at hn;exact ⟨hn.1,hn.2 _ _ (CN.ext hW) G2⟩
               have HFR:Hid (∀ W,aC wk W->W.frozen? ⟨ti.1,j*2,none⟩=false/\W.frozen? ⟨ti.1,j*2+1,none⟩=false):=fun W hW=>⟨(hrow.ext hW).free _,(hrow.ext hW).free _⟩
               clear qv vV hP Br wL hPu hrow rC hu hy hq hs1 hrl hpl vz hys Ij;go_wp2_with fail;refine iP (fun w'=>w'.cell? ⟨g0,i,none⟩=some (.slice (some ⟨ti.1,0,none⟩) C ti.2)/\w'.cell? ⟨g0,k,none⟩=some (.slice (some ⟨t.1,0,none⟩) C t.2)/\w'.cell? ⟨ti.1,j*2,none⟩=some (.string (aD u.num))/\w'.cell? ⟨ti.1,j*2+1,none⟩=some (.string (aE u.den))/\w'.cell? ⟨t.1,j*2,none⟩=some (.string (aD y.num))/\w'.cell? ⟨t.1,j*2+1,none⟩=some (.string (aE y.den))/\w'.cell? ⟨wi.heap.size,0,none⟩=some (.string (aD x.num))/\w'.cell? ⟨wi.heap.size,1,none⟩=some (.string (aE x.den))/\Hid (aC wk w')) 23 (by kernel_rfl) ⟨(aC.drew wk).cell c1,(aC.drew wk).cell c2,(aC.drew wk).cell g2,(aC.drew wk).cell g3,(aC.drew wk).cell y2,(aC.drew wk).cell y3,(aC.drew wk).cell e0,(aC.drew wk).cell e1,aC.drew wk⟩ (fun oX=>?_);refine rA [0,1,2,3,4,5,6,7,8,9,10,11,12,13,14,15,16,17,18,19] ?_
               iterate 20 ((first|(refine rL (v:=?_) (by rfl) (Or.inl ⟨by rfl,?_⟩) ?_;rotate_left;·((intro w' oz);(try dsimp only at oz);(try go_simp);(try with_reducible rfl)))|(refine rW (v:=?_) (by rfl) (Or.inl ⟨by rfl,?_⟩) ?_;rotate_left;·((intro w');(try go_simp);(try with_reducible rfl))));(try simp only [Act.put,aK,aL,aM]))
               refine rE ?_;refine dO 20 (by kernel_rfl) rfl (fun K hK=>?_);go_simp
               (go_at_call 163;refine (Ds _ oX.2.2.2.2.2.2.2.2).mono ?_)
               rintro e w5 ⟨rfl,ou⟩;go_wp2_with fail;refine hK _ _ (⟨ou.cell oX.1,ou.cell oX.2.1,ou.cell oX.2.2.1,ou.cell oX.2.2.2.1,ou.cell oX.2.2.2.2.1,ou.cell oX.2.2.2.2.2.1,ou.cell oX.2.2.2.2.2.2.1,ou.cell oX.2.2.2.2.2.2.2.1,aC.trans oX.2.2.2.2.2.2.2.2 ou⟩) (fun oX=>?_);clear hK K
               (try simp only [Act.put,aK,aL,aM])
               refine dO 21 (by kernel_rfl) rfl (fun K hK=>?_);go_simp
               (go_at_call 165;refine (pS _ oX.2.2.2.2.2.2.2.2).mono ?_)
               rintro e w5 ⟨rfl,ou⟩;go_wp2_with fail;refine hK _ _ (⟨ou.cell oX.1,ou.cell oX.2.1,ou.cell oX.2.2.1,ou.cell oX.2.2.2.1,ou.cell oX.2.2.2.2.1,ou.cell oX.2.2.2.2.2.1,ou.cell oX.2.2.2.2.2.2.1,ou.cell oX.2.2.2.2.2.2.2.1,aC.trans oX.2.2.2.2.2.2.2.2 ou⟩) (fun oX=>?_);clear hK K
               (try simp only [Act.put,aK,aL,aM])
               refine tW (v:=?_) 22 rfl (Or.inl ⟨by rfl,?_⟩) ?_;rotate_left
               ·((intro w');(try go_simp);(try with_reducible rfl))
               (try simp only [Act.put,aK,aL,aM])
               have z1:=oX.2.2.1;have z2:=oX.2.2.2.1;obtain ⟨z4,z5⟩:=HFR _ oX.2.2.2.2.2.2.2.2;have HM7:=s9 _ oX.2.2.2.2.2.2.2.2;refine fL 23 (by kernel_rfl) (by kernel_rfl) (by kernel_rfl) rfl (fun K hK=>?_);go_simp;refine hK _ _ ?_;clear hK K
               (try simp only [Act.put,aK,aL,aM])
               go_wp2_with fail;go_roundw
               case rel=>exact ⟨j+1,by go_num,by omega,HM7.1,HM7.2⟩
               case measure=>simp [intOf];omega
              ·have sN:Hid (cZ w wk g0 w.heap.size oZ (da m2 p c k (i+1)) dd (.slice av k cv) ld oo):=by
                have h8:=qH.out;rw [I3_ _ _ _ HSL.out (by rw [HRI.out.2.1];omega)] at h8;unfold Hid;rw [A7.out];exact h8
               go_wp2_with fail;go_roundw
               case rel=>exact ⟨i+1,by go_num,by omega,sN⟩
               case measure=>simp [intOf];omega
          ·have HM3:Hid (cZ w wi g0 w.heap.size oZ (da m2 p c k L) dd (.slice av k cv) ld oo):=by
            have AS:i=L:=by omega
            rw [<- AS];exact HMI
           have HB3:=n8 HM3.lead.build;have HLL:Hid (ld.length<1000000):=by unfold Hid;rw [<- HK.out];omega
           have hszr:w.heap.size+1<=wi.heap.size:=HM3.size;go_wp2_with (at_builtin;go_must (refine ee _ rfl _ _ 26 rfl (w.heap.size+1) 3 (.int .i64 0) 1 8 underlying26 kJ rfl (by decide) (.slice av k cv) nI ld c #[.int .i64 c] 3 rfl HB3 rfl rfl ?e1 (fun _ _=>rfl) HLL (by decide) hszr ?_))
           all_goals first | (simp [Value.oneCell'];done) | skip
           intro v' w5 o8 pc hb5 rB _;have HF:=n8 ((HM3.push vD (oJ _) hb5 o8.ownI).redOf HNX);clear o8 pc hb5 HB3;go_wp2_with fail;go_roundw
           case rel=>exact ⟨c+1,oo,by omega,by go_num,HF⟩
           case measure=>simp [intOf];omega
    ·obtain rfl:a=L:=by omega
     have HMID:Hid (cZ w wi g0 w.heap.size oZ m d (.slice av k cv) ld tags) :=
      ⟨HMM.ext HE,HBB.ext HE,HLD.ext HE,HSAME,HP.trans (HE.grownS _),oH HDS HE.size⟩
     obtain ⟨z,hz⟩:∃ z:Rat,z=0:=⟨_,rfl⟩;have HNX:Hid (aj m0 (c+1)=⟨m,ld,z⟩):=by
      unfold Hid;rw [HST.out,Z0K,hz];rw [HRC.out.2,<- HK.out];exact z4_ m c _ k a Bd (by omega) HZ (fun h=>by omega)
     have zf:Hid (∀ W,oW 161 #[] W (.agg #[.string (aD z.num),.string (aE z.den)])):=by
      unfold Hid;rw [hz];exact fun W=>Z33 W
     clear hz HST HZ HMM HBB HLD;go_wp2_with fail;refine (zf _).mono ?_;rintro e w5 ⟨rfl,ou⟩;have HM5:=n8 (HMID.ext ou);obtain ⟨b0,b1,b2,b3⟩:=HM5.box.cells;have HF:=n8 (HM5.setBox Ez (oJ _) z);clear ou zf;go_wp2_with fail;go_roundw
     case rel=>exact ⟨c+1,tags,by omega,by go_num,HF.redOf HNX⟩
     case measure=>simp [intOf];omega
  ·obtain rfl:c=n:=by omega
   have HMID:=n8 HR.mid;have Ez:Hid (∀ b,bZ g0 tags b->b<w.heap.size):=fun b hb=>HBW b ((HR.same b).1 hb);obtain ⟨d,hd⟩:∃ d,d=(aj m0 c).det:=⟨_,rfl⟩;rw [<- hd] at HMID;have HDD:Hid (d=(aj m0 c).det):=hd;have HM6:=n8 (HMID.ext (aC.drew _));obtain ⟨b0,b1,b2,b3⟩:=HMID.box.cells;have HF:=n8 (HM6.setBox Ez (oJ _) d);clear hd HR HP KZ HOK HSH;go_wp2_with fail
   go_region
   all_goals
    go_wp2_with fail;refine bodyPost_ret (X6_ (by rfl) _ _ w.heap.size 152 #[.string (aD d.num),.string (aE d.den)] (0,0) _ (.slice av k cv) (by rfl) (by rfl) HF.box underlying152 (by rfl) (by kernel_rfl)) (by rfl) ⟨_,tags,by rw [<- HDD.out];rfl,HF.lead.low (Nat.le_succ _),HF.mat,HF.same,HF.grown⟩
def dN (r:List Int):List Rat:=r.map fun x:Int=>(x:Rat)
theorem H4_ (r:List Int):(dN r).length=r.length:=by simp [dN]
def bJ (m:List (List Int)):List (List Rat):=m.map dN
theorem mA (m:List (List Int)):(bJ m).length=m.length:=by simp [bJ]
structure mh (m:List (List Rat)):Prop where
 val:∀ i j,aH m i j=0\/aH m i j=1
 one:∀ i i' j,aH m i j=1->aH m i' j=1->i=i'
theorem nG {m:List (List Rat)} {i c:Nat} (h:m.length<=i):aH m i c=0:=by
 unfold aH cQ;rw [oC (l:=m),oK h];simp
theorem l0_ {m:List (List Rat)} {a b:Nat} (ha:a<m.length) (hb:b<m.length) (i j:Nat):aH (bK m a b) i j=aH m (if i=b then a else if i=a then b else i) j:=by
 unfold aH cQ;rw [oC (l:=bK m a b),oC (l:=m),fJ (n9 ha) (n9 hb)];by_cases h1:i=b
 ·rw [if_pos h1,if_pos h1,n9 ha]
 ·rw [if_neg h1,if_neg h1];by_cases h2:i=a
  ·rw [if_pos h2,if_pos h2,n9 hb]
  ·rw [if_neg h2,if_neg h2]
theorem mh.swp {m:List (List Rat)} (h:mh m) {a b:Nat} (ha:a<m.length) (hb:b<m.length):mh (Proofs.YtjlkkofmojgipaaGreatDoor.bK m a b):=by
 refine ⟨fun i j=>by rw [l0_ ha hb];exact h.val _ _,fun i i' j h1 h2=>?_⟩;rw [l0_ ha hb] at h1 h2;have e:=h.one _ _ _ h1 h2
 repeat' split at e
 all_goals omega
theorem D0_ (m:List (List Rat)) (c:Nat):∀ (f a:Nat),a<=fC m c f a/\fC m c f a<=a+f/\(∀ j,a<=j->j<fC m c f a->aH m j c=0)/\(fC m c f a<a+f->aH m (fC m c f a) c≠0)
 | 0,a=>⟨oJ _,oJ _,fun j h1 h2=>by have:j<a:=h2;omega,fun h=>by have:a<a+0:=h;omega⟩
 | f+1,a=>by
  unfold fC;by_cases h:aH m a c=0
  ·rw [if_pos h];obtain ⟨h1,h2,h3,h4⟩:=D0_ m c f (a+1);refine ⟨by omega,by omega,fun j Ld xM=>?_,fun hh=>h4 (by omega)⟩;by_cases e:j=a
   ·rw [e];exact h
   ·exact h3 j (by omega) xM
  ·rw [if_neg h];exact ⟨oJ _,by omega,fun j h1 h2=>by omega,fun _=>h⟩
theorem mh.rs {m:List (List Rat)} (h:mh m):h_ 2500 m:=by
 intro r hr x hx;obtain ⟨i,hi⟩:=List.getElem?_of_mem hr;obtain ⟨j,hj⟩:=List.getElem?_of_mem hx;have e:aH m i j=x:=z2_ (by rw [ng hi];exact hj);have hs:(aD 1).size<=2/\(aD 0).size<=2/\(aE 1).size<=2:=by
  unfold aD aE Lib.itoa;rw [if_neg (by omega),if_neg (by omega),show (1:Int).toNat=1 from rfl,show (0:Int).toNat=0 from rfl,Lib.decDigits_one (by omega),Lib.decDigits_one (by omega)];exact ⟨by decide,by decide,by decide⟩
 rcases h.val i j with h0 | h0
 ·rw [<- e,h0];exact ⟨oI hs.2.1 (by omega),oI hs.2.2 (by omega)⟩
 ·rw [<- e,h0];exact ⟨oI hs.1 (by omega),oI hs.2.2 (by omega)⟩
def jA (xss:List (List Int)) (mo:Nat->List Rat) (i:Nat):List (List Rat):=(List.range i).map fun k=>dN (xss.getD k [])++mo k
theorem i4_ {xss:List (List Int)} {mo:Nat->List Rat} {i:Nat} {r:List Int} (h:xss[i]?=some r):jA xss mo (i+1)=jA xss mo i++[dN r++mo i]:=by
 unfold jA;rw [List.range_succ,List.map_append,List.map_cons,List.map_nil,oC (l:=xss),h];rfl
theorem Z0H (xss:List (List Int)) (mo:Nat->List Rat) (i:Nat):(jA xss mo i).length=i:=by simp [jA]
theorem Z0G {r:List Int} {k:Nat} {x:Int} (h:r[k]?=some x):dN (r.take (k+1))=dN (r.take k)++[(x:Rat)]:=by
 unfold dN;rw [oG,h,List.map_append];rfl
def Z4M (g:Nat) (lb:Array Value) (n:Nat) (mo:Nat->List Rat) (w:World):Prop :=
 ∀ (i:Nat) W,i<n->aC w W->Calls prog g (#[.int .i64 (i:Int)]++lb) W fun e W'=>∃ u,e=.returned u/\iE W' u (mo i)/\aC W W'
theorem Z4s (xss:List (List Int)) (v:Value) (g:Nat) (lb:Array Value) (mo:Nat->List Rat) (w:World) (h:bQ w v xss) (hl:xss.length<=1000) (hr:∀ r∈xss,r.length<=1000)
  (va:∀ i r,xss[i]?=some r->0<r.length+(mo i).length/\(mo i).length<=1000) (eg:∀ args w,(callFunc g args).run prog w=.ok (.enter g args) w) (hm:Z4M g lb xss.length mo w) (ht:af w) :
  Calls prog 110 #[v,.func (.func g) #[] lb] w fun e w'=>∃ u tags,e=.returned u/\bO kU 197 w' w.heap.size w.heap.size u tags (jA xss mo xss.length)/\aC w w':=by
 obtain ⟨a,c,rfl,h1,h2,-,hc⟩:=bT.open h;have HC:=n8 hc;have HM:=n8 hm;have HT:=n8 ht;have HR:=n8 hr;have HMO:=n8 va;unfold maxLen at h2;clear h hc hm ht hr va
 go_enter func110,ntmps110
 go_wp2_with fail
 go_loopw [13,5] (fun t v wr=>∃ (i:Nat) (tags:List (Nat×Nat)),i<=xss.length/\t=.int .i64 i/\aC w wr/\Hid (bO kU 197 wr w.heap.size w.heap.size v tags (jA xss mo i))) (fun t _ _=>xss.length-(intOf t).toNat)
 case atStart=>exact ⟨0,[],by omega,rfl,aC.refl _,bO.nil _ _ _ _ _⟩
 case round =>
  obtain ⟨i,tags,hin,rfl,hE,HO⟩:=hrel;obtain ⟨wo,rfl⟩:∃ wo:World,wo=wr:=⟨_,rfl⟩;have HE:=n8 hE;by_cases hlt:i<xss.length
  ·obtain ⟨b,off,rfl,hb,hcell⟩:=HC (by intro e;simp [e] at hlt);obtain ⟨r,hx⟩:∃ x,xss[i]?=some x:=⟨xss[i],n9 hlt⟩;obtain ⟨vx,qh,pG⟩:=hcell i r hx;obtain ⟨ax,cx,rfl,k1,k2,-,hbd,kc⟩:=au.open qh;have g1:=hE.cell pG;have HX:=n8 (au.ext qh hE);have HK:=n8 kc;have HBD:=n8 hbd;have HI:=n8 hx;have HSU:=n8 (i4_ (mo:=mo) hx);have hrl:=HR r (oD hx);have HMI:=n8 (HMO i r hx);unfold maxLen at k2;clear hcell hx qh pG kc hbd;go_wp2_with fail;clear g1
   go_loopw [20,8] (fun t v wr=>∃ k:Nat,k<=r.length/\t=.int .i64 k/\Hid (aC wo wr)/\Hid (eC wo.heap.size wr v (dN (r.take k)))) (fun t _ _=>r.length-(intOf t).toNat)
   case atStart=>exact ⟨0,by omega,rfl,aC.refl _,eC.nil _ _⟩
   case round =>
    obtain ⟨k,hk,rfl,pU,HQ⟩:=hrel;obtain ⟨wi,rfl⟩:∃ wi:World,wi=wr:=⟨_,rfl⟩;by_cases hlk:k<r.length
    ·obtain ⟨bx,offx,rfl,hbx,rK⟩:=HK (by intro e;simp [e] at hlk);obtain ⟨x,hx⟩:∃ x,r[k]?=some x:=⟨r[k],n9 hlk⟩;have g1:=(HE.trans pU).cell (rK k x hx);have HTK:=n8 (Z0G hx);have hb:=HBD x (oD hx);have HOF:=n8 (lJ x wi hb.1 hb.2 (HT.ext (HE.trans pU)));clear rK hx hb;go_wp2_with fail;refine HOF.mono ?_;rintro e w1 ⟨rfl,hE1⟩;have HQ1:=n8 (HQ.ext hE1);have HX1:=n8 (aC.trans pU hE1);have HQ2:Hid (eC wo.heap.size (w1.alloc (.cells #[.string (aD x),.string ⟨#[49]⟩] 152)) u8 (dN (r.take k))):=HQ1.ext (aC.alloc _ _);have HU:Hid (iE (w1.alloc (.cells #[.string (aD x),.string ⟨#[49]⟩] 152)) (.slice (some ⟨w1.heap.size,0,none⟩) 1 1) [(x:Rat)]):=by
      have:=iE.one w1 (x:Rat) 152;rw [show ((x:Rat)).num=x from rfl,show ((x:Rat)).den=1 from rfl,lI] at this;exact this
     have hs1:wo.heap.size<=(w1.alloc (.cells #[.string (aD x),.string ⟨#[49]⟩] 152)).heap.size:=by
      have:=HX1.size;rw [World.size_alloc];omega
     have HS1:=n8 hs1;have HLE:Hid ((dN (r.take k)).length+[(x:Rat)].length<1000000):=by
      unfold Hid;rw [H4_,oF];simp;omega
     clear hE1 HOF g1 hs1;go_wp2_with (at_builtin;go_must (refine Y3_ _ rfl _ _ rfl wo.heap.size u8 _ (dN (r.take k)) [(x:Rat)] rfl HQ2 rfl HU HLE HS1 ?_));intro v' w2 xV hb2 _;rw [<- HTK.out] at xV;have HQ3:=n8 xV;have HX2:Hid (aC wo w2):=Below.trans (aC.trans HX1 (aC.alloc w1 (.cells #[.string (aD x),.string ⟨#[49]⟩] 152))) hb2;clear xV hb2;go_wp2_with fail;go_roundw
     case rel=>exact ⟨k+1,by omega,by go_num,HX2,HQ3⟩
     case measure=>simp [intOf];omega
    ·obtain rfl:k=r.length:=by omega
     rw [List.take_length] at HQ;have HCALL:=n8 (HM i wi hlt (HE.trans pU));go_wp2_with fail;refine HCALL.mono ?_;rintro e w1 ⟨um,rfl,CU,hE1⟩;have HQ1:=n8 (HQ.ext hE1);have HX1:=n8 (aC.trans pU hE1);have HUM:=n8 CU;have HLE:Hid ((dN r).length+(mo i).length<1000000):=by
      unfold Hid;have:=HMI.2;rw [H4_];omega
     have HS1:=n8 HX1.size;clear hE1 HCALL CU;go_wp2_with (at_builtin;go_must (refine Y3_ _ rfl _ _ rfl wo.heap.size u8 _ (dN r) (mo i) rfl HQ1 rfl HUM HLE HS1 ?_));intro v' w2 xV hb2 _;have HX2:Hid (aC wo w2):=Below.trans HX1 hb2;obtain ⟨gq,cq,rfl,d1,d2,d3,d4⟩:=iz xV (by rw [oU,H4_];exact HMI.1);have HRQ:=n8 xV.row;obtain ⟨nq,Co⟩:∃ nq,nq=(dN r++mo i).length:=⟨_,rfl⟩;rw [<- Co] at d3 |-;have HNQ:=n8 Co;have HO2:=n8 (HO.ext HX2);have HV:Hid (u5.ownBlock≠some gq):=fun e=>by have:=(HO.own.lt _ e).2;omega
     have HN:Hid (gq∉tags.map (·.1)):=fun e=>by have:=(HO.fresh e).2;omega
     have HSZ:Hid (w.heap.size<=gq/\w.heap.size<=w2.heap.size):=by
      have h1:=HE.size;have h2:=HX2.size;exact ⟨by omega,by omega⟩
     have HLN:Hid ((jA xss mo i).length<1000000):=by unfold Hid;rw [Z0H];omega
     have D6:Hid ((dN r++mo i).length<=cq/\cq<=9223372036854775807):=⟨by rw [<- Co];exact d3,d4⟩;clear xV hb2 d1 d2 d3 d4 Co;go_wp2_with (at_builtin;go_must (refine n6 (K:=kU) (e:=197) underlying155 Z3G _ rfl _ _ rfl w.heap.size w.heap.size u5 tags (jA xss mo i) (gq,cq) (dN r++mo i) #[.slice (some ⟨gq,0,none⟩) nq cq] 197 rfl HO2 (by rfl) (by rw [HNQ.out];rfl) D6.1 D6.2 HRQ HSZ.1 HV HN HLN HSZ.2 ?_));intro v' w5 qG hb5 _;rw [<- HSU.out] at qG;have HO5:=n8 qG;have HX5:=n8 (Below.trans (aC.trans HE HX2) hb5);clear qG hb5;go_wp2_with fail;go_roundw
     case rel=>exact ⟨i+1,_,by omega,by go_num,HX5,HO5⟩
     case measure=>simp [intOf];omega
  ·obtain rfl:i=xss.length:=by omega
   go_wp2_with fail;go_ret;exact ⟨_,tags,rfl,HO,hE⟩
theorem k5_ (i:Int) (w:World):Calls prog 111 #[.int .i64 i] w fun e w'=>e=.returned (.slice none 0 0)/\w=w':=by
 go_enter func111,ntmps111
 go_wp2
 go_ret;exact ⟨rfl,rfl⟩
theorem iE.nil (w:World):iE w (.slice none 0 0) []:=⟨[],rfl,by simp,⟨none,0,rfl,oJ _,Nat.zero_le _,fun _=>rfl,fun h=>absurd rfl h⟩,by simp⟩
theorem q5_ (n:Nat) (w:World):Z4M 111 #[] n (fun _=>[]) w:=fun i W _ _ =>
 (k5_ i W).mono fun e W' ⟨h1,h2⟩=>⟨_,h1,iE.nil _,h2▸aC.refl _⟩
theorem K8_ {α:Type} {xs:List α} {j:Nat} {x:α} (h:xs[j]?=some x):xs.drop j=x::xs.drop (j+1):=by
 obtain ⟨hj,rfl⟩:=n_.1 h;exact List.drop_eq_getElem_cons hj
def dB (n:Int):Bool:=decide (-1000000000<=n) && decide (n<=1000000000)
theorem z5_ (n:Int):dB n=true↔-1000000000<=n/\n<=1000000000:=by simp [dB]
end Go.Proofs.YtjlkkofmojgipaaGreatDoor
