import Derived.Test.YtoonaddcfakamaaGreatDoorYAP
import Derived.Deep.CutRange
import Derived.Test.YtoonaddcfakamaaGreatDoorYAF
import Derived.Test.YtoonaddcfakamaaGreatDoorYAA
set_option linter.unusedVariables false
set_option linter.unusedSimpArgs false
set_option maxRecDepth 1000000
set_option maxHeartbeats 16000000
namespace Go.Proofs.YtoonaddcfakamaaGreatDoor
open Go.RowKit Go.Proofs.Tryz
theorem nF:aB 1=⟨#[49]⟩:=by unfold aB Lib.itoa;rw [if_neg (by omega),show (1:Int).toNat=1 from rfl,Lib.decDigits_one (by omega)];rfl
theorem iF:aE 1=⟨#[49]⟩:=by unfold aE;rw [Lib.decDigits_one (by omega)];rfl
theorem I3_:aB 0=⟨#[48]⟩:=by unfold aB Lib.itoa;rw [if_neg (by omega),show (0:Int).toNat=0 from rfl,Lib.decDigits_one (by omega)];rfl
theorem L3_:bN 1=.agg #[.string ⟨#[49]⟩,.string ⟨#[49]⟩]:=by
 show Value.agg #[.string (aB 1),.string (aE 1)]=_;rw [nF,iF]
theorem H3_:bN 0=.agg #[.string ⟨#[48]⟩,.string ⟨#[49]⟩]:=by
 show Value.agg #[.string (aB 0),.string (aE 1)]=_;rw [I3_,iF]
theorem d9_ (w:World):oL 274 #[] w (bN 1):=by
 rw [L3_]
 go_enter func274,ntmps274
 go_wp2
 refine bodyPost_ret (results_cell_row (by rfl) _ _ w.heap.size 246 #[.string ⟨#[49]⟩,.string ⟨#[49]⟩] (0,0) _ (by rfl) (heap_alloc_new _ _) underlying246 (by rfl) (by kernel_rfl)) (by rfl) ⟨rfl,aA.alloc _ _⟩
theorem G7_ (w:World):oL 276 #[] w (bN 0):=by
 rw [H3_]
 go_enter func276,ntmps276
 go_wp2
 refine bodyPost_ret (results_cell_row (by rfl) _ _ w.heap.size 246 #[.string ⟨#[48]⟩,.string ⟨#[49]⟩] (0,0) _ (by rfl) (heap_alloc_new _ _) underlying246 (by rfl) (by kernel_rfl)) (by rfl) ⟨rfl,aA.alloc _ _⟩
theorem J8_ {S S':Nat->Prop} {w w1 w2:World} (h:aH S w w1) (g:aH S' w1 w2) (hS:∀ b,S' b->w.heap.size<=b\/S b):aH S w w2 :=
 ⟨g.os.trans h.os,g.tape.trans h.tape,g.output.trans h.output,n8 h.size g.size,fun k hk hn=>(g.block k (n7 hk h.size) (fun hs=>by
  rcases hS k hs with h1 | h1;·omega
  ·exact hn h1)).trans (h.block k hk hn)⟩
def ck (w:World) (D:Nat) (q:Rat):Prop:=w.heap[D]?=some (.cells #[.string (aB q.num),.string (aE q.den)] 246 (0,0))
theorem ck.ext {w w':World} {D:Nat} {q:Rat} (h:ck w D q) (he:aA w w'):ck w' D q:=aF h he
theorem ck.grown {w w':World} {S:Nat->Prop} {D:Nat} {q:Rat} (h:ck w D q) (hg:aH S w w') (hS:¬ S D):ck w' D q:=(hg.block D (c_ h) hS).trans h
theorem ck.cells {w:World} {D:Nat} {q:Rat} (h:ck w D q):w.cell? ⟨D,0,none⟩=some (.string (aB q.num))/\w.cell? ⟨D,1,none⟩=some (.string (aE q.den))/\w.frozen? ⟨D,0,none⟩=false/\w.frozen? ⟨D,1,none⟩=false:=by
 obtain ⟨a,b,c⟩:=cw h;exact ⟨a,b,c 0,c 1⟩
theorem ck.set {w:World} {D:Nat} {q:Rat} (h:ck w D q) (r:Rat):ck ((w.setCell ⟨D,0,none⟩ (.string (aB r.num))).setCell ⟨D,1,none⟩ (.string (aE r.den))) D r:=jj h
def dI (B:Nat) (w:World) (v:Value) (l:List Nat):Prop:=w.ownsRow B 3 1 v l.length (l.map fun c:Nat=>Value.int .i64 (c:Int))
theorem dI.nil (B:Nat) (w:World):dI B w (.slice none 0 0) []:=World.ownsRow_nil w B 3 1
theorem dI.ext {B:Nat} {w w':World} {v:Value} {l:List Nat} (h:dI B w v l) (he:aA w w'):dI B w' v l:=fN h he
theorem dI.lt {B:Nat} {w:World} {v:Value} {l:List Nat} (h:dI B w v l):∀ b,v.ownBlock=some b->B<=b/\b<w.heap.size:=World.ownsRow.lt h
theorem dI.form {B:Nat} {w:World} {v:Value} {l:List Nat} (h:dI B w v l):∃ a cap,v=.slice a l.length cap/\l.length<=cap/\cap<=9223372036854775807:=by
 rcases h.2 with ⟨rfl,hn⟩ | ⟨g,cap,cur,rfl,hb,hg,h1,h2,h3,h4⟩
 ·exact ⟨none,0,by rw [hn],by omega,by omega⟩
 ·exact ⟨_,cap,rfl,h1,h2⟩
theorem dI.grown {S:Nat->Prop} {B:Nat} {w w':World} {v:Value} {l:List Nat} (h:dI B w v l) (hg:aH S w w') (hS:∀ b,S b->b<B):dI B w' v l:=by
 refine ⟨h.1,?_⟩;rcases h.2 with h' | ⟨g,cap,cur,rfl,hb,rJ,rest⟩
 ·exact .inl h'
 ·exact .inr ⟨g,cap,cur,rfl,hb,(hg.block g (Array.getElem?_eq_some_iff.1 rJ).1 (fun hs=>by have:=hS g hs;omega)).trans rJ,rest⟩
def Z5T (_:World) (u:List Value) (x:Nat):Prop:=u=[.int .i64 (x:Int)]
theorem dI.build {B:Nat} {w:World} {v:Value} {l:List Nat} (h:dI B w v l):aj w B 3 1 v Z5T l:=by
 refine ⟨l.map fun x:Nat=>[Value.int .i64 (x:Int)],by simp,by simp,?_,?_⟩;·rw [eW];exact h
 ·intro j u x hu hx w' _;simp only [nx,hx,Option.map_some,Option.some.injEq] at hu;exact hu.symm
theorem aj.ownI {B:Nat} {w:World} {v:Value} {l:List Nat} (h:aj w B 3 1 v Z5T l):dI B w v l:=by
 obtain ⟨us,h1,h2,h3,h4⟩:=h;have:us=l.map fun x:Nat=>[Value.int .i64 (x:Int)]:=by
  apply List.ext_getElem?;intro i;rw [nx];by_cases hi:i<l.length
  ·have qA:i<us.length:=(by omega);have:=(h4 i us[i] l[i] (by simp [qA]) (by simp [hi])).now;simp only [Z5T] at this;simp [hi,qA,this]
  ·rw [n_ (by omega),n_ (by omega)];rfl
 rw [this,eW] at h3;exact h3
theorem X5_ (x:Rat):(x.num.sign == 0)=decide (x=0):=by
 rw [Bool.eq_iff_iff,beq_iff_eq,decide_eq_true_iff,Int.sign_eq_zero_iff_zero,Rat.num_eq_zero]
structure cK (w0 wr:World) (g0 D:Nat) (oW:List (Nat×Nat)) (m1:List (List Rat)) (d1:Rat) (v:Value) (ld:List Nat) (tags:List (Nat×Nat)):Prop where
 mat:cT wr g0 tags m1
 box:ck wr D d1
 lead:dI (D+1) wr v ld
 same:∀ b,cV g0 tags b↔cV g0 oW b
 grown:aH (cV g0 oW) w0 wr
 size:D<wr.heap.size
theorem cK.ext {w0 wr w':World} {g0 D:Nat} {oW:List (Nat×Nat)} {m1:List (List Rat)} {d1:Rat} {v:Value} {ld:List Nat} {tags:List (Nat×Nat)} (h:cK w0 wr g0 D oW m1 d1 v ld tags) (he:aA wr w'):cK w0 w' g0 D oW m1 d1 v ld tags :=
 ⟨h.mat.ext he,h.box.ext he,h.lead.ext he,h.same,h.grown.trans (he.grownS _),n7 h.size he.size⟩
theorem cK.setBox {w0 wr:World} {g0 D:Nat} {oW:List (Nat×Nat)} {m1:List (List Rat)} {d1:Rat} {v:Value} {ld:List Nat} {tags:List (Nat×Nat)} (h:cK w0 wr g0 D oW m1 d1 v ld tags) (hb:∀ b,cV g0 tags b->b<D) (hD:w0.heap.size<=D) (q:Rat) :
  cK w0 ((wr.setCell ⟨D,0,none⟩ (.string (aB q.num))).setCell ⟨D,1,none⟩ (.string (aE q.den))) g0 D oW m1 q v ld tags:=by
 have hgr:aH (·=D) wr ((wr.setCell ⟨D,0,none⟩ (.string (aB q.num))).setCell ⟨D,1,none⟩ (.string (aE q.den))):=((aH.refl (·=D) wr).store (S:=(·=D)) rfl _ _).store (S:=(·=D)) rfl _ _;exact ⟨h.mat.grown hgr (fun b pd e=>by have:=hb b pd;omega),h.box.set q,h.lead.grown hgr (fun b e=>by omega),h.same,J8_ h.grown hgr (fun b e=>.inl (by omega)),by rw [gJ,gJ];exact h.size⟩
structure mS (w0 wr:World) (g0 D:Nat) (oW:List (Nat×Nat)) (m0:List (List Rat)) (c:Nat) (v:Value) (tags:List (Nat×Nat)):Prop where
 mat:cT wr g0 tags (ah m0 c).m
 box:ck wr D (ah m0 c).det
 lead:dI (D+1) wr v (ah m0 c).lead
 same:∀ b,cV g0 tags b↔cV g0 oW b
 grown:aH (cV g0 oW) w0 wr
 size:D<wr.heap.size
theorem mS.mid {w0 wr:World} {g0 D:Nat} {oW:List (Nat×Nat)} {m0:List (List Rat)} {c:Nat} {v:Value} {tags:List (Nat×Nat)} (h:mS w0 wr g0 D oW m0 c v tags):cK w0 wr g0 D oW (ah m0 c).m (ah m0 c).det v (ah m0 c).lead tags :=
 ⟨h.mat,h.box,h.lead,h.same,h.grown,h.size⟩
theorem cK.redOf {w0 wr:World} {g0 D:Nat} {oW:List (Nat×Nat)} {m0 m1:List (List Rat)} {d1:Rat} {c:Nat} {v:Value} {ld:List Nat} {tags:List (Nat×Nat)} (h:cK w0 wr g0 D oW m1 d1 v ld tags) (e:ah m0 c=⟨m1,ld,d1⟩):mS w0 wr g0 D oW m0 c v tags :=
 ⟨by rw [e];exact h.mat,by rw [e];exact h.box,by rw [e];exact h.lead,h.same,h.grown,h.size⟩
theorem dI.low {B B':Nat} {w:World} {v:Value} {l:List Nat} (h:dI B w v l) (hb:B'<=B):dI B' w v l:=by
 refine ⟨h.1,?_⟩;rcases h.2 with h' | ⟨g,cap,cur,rfl,hg,rest⟩
 ·exact .inl h'
 ·exact .inr ⟨g,cap,cur,rfl,n8 hb hg,rest⟩
theorem Z0q {c:Nat} {m:List (List Rat)} {ld:List Nat} {d:Rat} (h:fC m c (m.length-ld.length) ld.length=m.length):cD c ⟨m,ld,d⟩=⟨m,ld,0⟩:=by
 unfold cD;exact if_pos h
theorem Z0r {c a:Nat} {m m1:List (List Rat)} {ld:List Nat} {d d1 f:Rat} {r:List Rat} (h:fC m c (m.length-ld.length) ld.length=a) (ha:a≠m.length) (hm:m1=if a=ld.length then m else bu m ld.length a) (hd:d1=if a=ld.length then d else -d) (hr:r=cC m1 ld.length) (hf:f=aJ m1 ld.length c) :
  cD c ⟨m,ld,d⟩=⟨dS (m1.set ld.length (dK r f)) (dK r f) c ld.length (m1.set ld.length (dK r f)).length,ld++[c],d1*f⟩:=by
 subst h hf hr hm hd;unfold cD;exact if_neg ha
theorem Z16 {m:List (List Rat)} {k a c:Nat} (hk:k<m.length) (ha:a<m.length):aJ (if a=k then m else bu m k a) k c=aJ m a c:=by
 by_cases e:a=k;·rw [if_pos e,e]
 ·rw [if_neg e];unfold aJ;rw [ku (m:=bu m k a) (i:=k) (r:=cC m a)];rw [iM (gZ hk) (gZ ha),if_neg (fun x=>e x.symm),if_pos rfl]
theorem X8_ {P:Program} {fn:Func} {p s:Tmp} {ty:TypeId} (h:fn.results=#[.tmp s,.cell p ty]) (tmps:Array Value) (w:World) (g:Nat) (t:TypeId) (cs:Array Value) (fr:Nat×Nat) (d:TypeDesc) (v:Value)
  (hp:tmps.getD p undef=.pointer (some ⟨g,0,none⟩)) (hs:tmps.getD s undef=v) (hg:w.heap[g]?=some (.cells cs t fr))
  (hu:P.underlying ty=some d) (hd:(match d with | .struct _ | .array _ _=>true | _=>false)=true) (hi:(P.info? ty).map (·.size)=some cs.size) :
  (results fn tmps).run P w=.ok (.tuple #[v,.agg cs]) w:=by
 have qj:tmps[p]?.getD undef=.pointer (some ⟨g,0,none⟩):=by simpa using hp
 have tZ:tmps[s]?.getD undef=v:=by simpa using hs
 simp [results,h,qj,tZ,asAddr,run_loadVar_row w g t ty cs fr d hg hu hd hi]
theorem L8_ {α:Type} {l:List α} {i:Nat} {a:α} (h:l[i]?=some a):l.set i a=l:=by
 apply List.ext_getElem?;intro j;rw [oK];by_cases e:i=j
 ·subst e;rw [if_pos rfl,if_pos (nt.1 h).1,h]
 ·rw [if_neg e]
theorem i2_ {α:Type} {l:List α} {i:Nat} {a b:α} (h:l[i]?=some a):(l.set i b)[i]?=some b:=by
 rw [oK,if_pos rfl,if_pos (nt.1 h).1]
theorem cK.setEl {w0 wr:World} {g0 D:Nat} {oW:List (Nat×Nat)} {m:List (List Rat)} {d:Rat} {v:Value} {ld:List Nat} {tags:List (Nat×Nat)} (h:cK w0 wr g0 D oW m d v ld tags) (hb:∀ b,cV g0 tags b->b<D)
  {i j:Nat} {t:Nat×Nat} {r:List Rat} (ht:tags[i]?=some t) (hr:m[i]?=some r) (hj:j<r.length) (q:Rat) :
  cK w0 ((wr.setCell ⟨t.1,j*2,none⟩ (.string (aB q.num))).setCell ⟨t.1,j*2+1,none⟩ (.string (aE q.den))) g0 D oW (m.set i (r.set j q)) d v ld tags /\
   ∀ F x,ck wr F x->D<=F->ck ((wr.setCell ⟨t.1,j*2,none⟩ (.string (aB q.num))).setCell ⟨t.1,j*2+1,none⟩ (.string (aE q.den))) F x:=by
 have hgr:aH (·=t.1) wr ((wr.setCell ⟨t.1,j*2,none⟩ (.string (aB q.num))).setCell ⟨t.1,j*2+1,none⟩ (.string (aE q.den))):=((aH.refl (·=t.1) wr).store (S:=(·=t.1)) rfl _ _).store (S:=(·=t.1)) rfl _ _;obtain ⟨t',tF,-,-,-,hR,hne,hbq⟩:=h.mat.get hr;obtain rfl:t'=t:=oA (tF.symm.trans ht);have hlt:=hb _ hbq
 exact ⟨⟨h.mat.setRow ht hr (by rw [List.length_set]) hgr (hR.set j hj q),h.box.grown hgr (fun e=>by omega),h.lead.grown hgr (fun b e=>by omega),h.same,h.grown.trans (hgr.weak fun b _ e=>by rw [e];exact (h.same _).1 hbq),by rw [gJ,gJ];exact h.size⟩,
  fun F x hF hDF=>hF.grown hgr (fun e=>by omega)⟩
theorem cK.push {w0 wr w':World} {g0 D:Nat} {oW:List (Nat×Nat)} {m:List (List Rat)} {d:Rat} {v v':Value} {ld ld':List Nat} {tags:List (Nat×Nat)} (h:cK w0 wr g0 D oW m d v ld tags) (hb:∀ b,cV g0 tags b->b<D) (hD:w0.heap.size<=D)
  (hB:Below (D+1) wr w') (hv:dI (D+1) w' v' ld'):cK w0 w' g0 D oW m d v' ld' tags:=by
 have hgr:aH (fun b=>D+1<=b) wr w':=⟨hB.os,hB.tape,hB.output,hB.size,fun k hk hn=>hB.block k (by omega)⟩;exact ⟨h.mat.grown hgr (fun b pd e=>by have:=hb b pd;omega),h.box.grown hgr (fun e=>by omega),hv,h.same,J8_ h.grown hgr (fun b e=>.inl (by omega)),n7 h.size hB.size⟩
theorem Z0i (m0:List (List Rat)) (g0 zZ n C:Nat) (oW:List (Nat×Nat)) (wb w:World) (hM:cT w g0 oW m0) (hC:bw C m0) (hn:n<=C) (DF:C<=1000) (hl:m0.length<=1000) (sw:m0.length<=zZ) (qP:zZ<=9223372036854775807)
  (og:∀ c,c<n->fi 2500 (ah m0 c).m/\RS 9000 (ah m0 c).det) (xK:aA wb w) (ht:aZ wb) (rN:∀ b,cV g0 oW b->wb.heap.size<=b) :
  Calls prog 203 #[.slice (some ⟨g0,0,none⟩) m0.length zZ,.int .i64 n] w fun e w'=>∃ v tags,e=.returned (.tuple #[v,bN (ah m0 n).det])/\dI w.heap.size w' v (ah m0 n).lead/\cT w' g0 tags (ah m0 n).m/\(∀ b,cV g0 tags b↔cV g0 oW b)/\aH (cV g0 oW) w w':=by
 have HM:=np hM;have HC:=np hC;have HOK:=np og;have HWB:=np xK;have HT:=np ht;have HBL:=np rN;have HSH:=np (nV hC);obtain ⟨L,hL⟩:=oO m0.length;rw [<- hL] at hl sw HSH |-;have HL:=np hL;obtain ⟨W1,oZ,hE1,hs1,hb1⟩:=dF w (.string ⟨#[]⟩) (.string ⟨#[]⟩) 246;have HE1:=np hE1;have HB1:Hid (∀ W,aA W1 W->aU w.heap.size W):=fun W hW=>aU.ext ⟨_,_,hb1⟩ hW;have HS1:=np hs1;have HBW:Hid (∀ b,cV g0 oW b->b<w.heap.size):=fun b hb=>hM.blt hb;obtain ⟨r0,r1,rf⟩:=cw hb1;clear hM hC og xK ht rN hL hE1 hs1 hb1 rf
 go_enter func203,ntmps203
 go_wp2_with fail;refine (d9_ _).mono ?_;rintro e w2 ⟨rfl,hE2⟩;have HE2:=np hE2;obtain ⟨q0,q1,t0,t1,f0,f1⟩:=(HB1 _ hE2).open;have hbx:=(HB1 _ hE2);rw [L3_];have HR0:Hid (mS w ((w2.setCell ⟨w.heap.size,0,none⟩ (.string ⟨#[49]⟩)).setCell ⟨w.heap.size,1,none⟩ (.string ⟨#[49]⟩)) g0 w.heap.size oW m0 0 (.slice none 0 0) oW):=by
  have hgr:aH (·=w.heap.size) w2 ((w2.setCell ⟨w.heap.size,0,none⟩ (.string ⟨#[49]⟩)).setCell ⟨w.heap.size,1,none⟩ (.string ⟨#[49]⟩)):=((aH.refl (·=w.heap.size) w2).store (S:=(·=w.heap.size)) rfl _ _).store (S:=(·=w.heap.size)) rfl _ _;refine ⟨(HM.ext (HE1.trans hE2)).grown hgr (fun b hb e=>by have:=HBW b hb;omega),?_,dI.nil _ _,fun b=>Iff.rfl,?_,?_⟩
  ·have:=hbx.res (x:=.string ⟨#[49]⟩) (y:=.string ⟨#[49]⟩);unfold ck;rw [this];show some (Obj.cells #[.string ⟨#[49]⟩,.string ⟨#[49]⟩] 246 (0,0))=some (Obj.cells #[.string (aB 1),.string (aE 1)] 246 (0,0));rw [nF,iF]
  ·exact J8_ ((HE1.trans hE2).grownS _) hgr (fun b hb=>.inl (by omega))
  ·rw [gJ,gJ];have:=hE2.size;have:=HS1.out;omega
 clear hE2 hbx r0 r1;go_wp2_with fail;clear q0 q1 t0 t1 f0 f1
 go_loopw [16,4] (fun t v wr=>∃ (c:Nat) (tags:List (Nat×Nat)),c<=n/\t=.int .i64 c/\Hid (mS w wr g0 w.heap.size oW m0 c v tags)) (fun t _ _=>n-(intOf t).toNat)
 case atStart=>exact ⟨0,oW,by omega,rfl,HR0⟩
 case round =>
  obtain ⟨c,tags,hc,rfl,HR⟩:=hrel;obtain ⟨wo,rfl⟩:∃ wo:World,wo=wr:=⟨_,rfl⟩;clear HR0 HE2;have HP:=np (HR.grown);have Lb:Hid (aA wb wo):=Below.trans HWB (HR.grown.belowE (B:=wb.heap.size) HBL HWB.size);obtain ⟨av,cv,hv,hv1,qe⟩:=HR.lead.form;obtain ⟨k,hk⟩:=oO ((ah m0 c).lead.length);rw [<- hk] at hv hv1;have HK:=np hk;have KI:k<=L:=by rw [hk];exact (HSH c).2.2
  subst hv;clear hk;by_cases hlt:c<n
  ·obtain ⟨hA,hD⟩:=HOK c hlt;have HA:=np hA;have HD:=np hD;obtain ⟨m,hm⟩:=oO ((ah m0 c).m);obtain ⟨d,hd⟩:=oO ((ah m0 c).det);obtain ⟨ld,qn⟩:=oO ((ah m0 c).lead);have HMM:=HR.mat;have HBB:=HR.box;have HLD:=HR.lead;rw [<- hm] at HMM HA;rw [<- hd] at HBB HD;rw [<- qn] at HLD HK;have HMM:=np HMM;have HBB:=np HBB;have HLD:=np HLD;have rl:Hid (bw C m/\m.length=L):=(by unfold Hid;rw [hm];exact ⟨(HSH c).1,(HSH c).2.1⟩);have rT:Hid (ah m0 (c+1)=cD c ⟨m,ld,d⟩):=(by unfold Hid;rw [hm,hd,qn];rfl);have HSAME:=np HR.same;have HDS:=np HR.size;have Gq:Hid (∀ b,cV g0 tags b->b<w.heap.size):=fun b hb=>HBW b ((HR.same b).1 hb);clear hm hd qn hA hD HR;go_wp2_with fail
   go_loopw [7] (fun t wr=>∃ a:Nat,t=.int .i64 a/\k<=a/\a<=L/\Hid (∀ j,k<=j->j<a->aJ m j c=0)/\Hid (aA wo wr)) (fun t _=>L-(intOf t).toNat)
   case atStart=>exact ⟨k,rfl,by omega,KI,(fun j h1 h2=>by omega),aA.refl _⟩
   case round =>
    obtain ⟨a,rfl,Ee,C5,HZ,HE⟩:=hrel;obtain ⟨wi,rfl⟩:∃ wi:World,wi=wr:=⟨_,rfl⟩;by_cases pT:a<L
    ·have hr:m[a]?=some (cC m a):=gZ (by have:=rl.2;omega);obtain ⟨t,ht,c1,h1,h2,hrow,hne,hbq⟩:=HMM.get hr;have hrl:=rl.1.get hr;have o8:c<(cC m a).length:=(by omega);have hx:(cC m a)[c]?=some (aJ m a c):=(by rw [my (ns o8)];exact ns o8);have g1:=HE.cell c1;have g2:=HE.cell (hrow.num c _ hx);have g3:=HE.cell (hrow.den c _ hx);have HRL:=np hrl;rw [hrl] at g1 h1;have Kc:c<C:=(by omega);have HSG:Hid (∀ W,oL 275 #[.agg #[.string (aB (aJ m a c).num),.string (aE (aJ m a c).den)]] W (.int .i64 (aJ m a c).num.sign)):=fun W=>X4_ (aJ m a c) W;have hsz:=X5_ (aJ m a c);clear hr ht c1 hrow hne hbq hrl o8 hx;by_cases pQ:aJ m a c=0
     ·have HZ2:Hid (∀ j,k<=j->j<a+1->aJ m j c=0):=fun j h1 h2=>by
       by_cases e:j=a;·rw [e];exact pQ
       ·exact HZ j h1 (by omega)
      rw [oH pQ] at hsz;obtain ⟨sg,qK⟩:=oO ((aJ m a c).num.sign);rw [<- qK] at HSG hsz;clear pQ qK;go_wp2_with fail;refine p_ (HSG _) (aA.trans HE) ?_;intro w3 HE3;clear HSG g1 g2 g3;go_wp2_with fail;go_roundw
      case rel=>exact ⟨a+1,by go_num,by omega,by omega,HZ2,HE3⟩
      case measure=>simp [intOf];omega
     ·rw [oG pQ] at hsz;obtain ⟨sg,qK⟩:=oO ((aJ m a c).num.sign);rw [<- qK] at HSG hsz;have HX0:=np pQ;clear pQ qK;have Bc:¬ a=L:=(by omega);go_wp2_with fail;refine p_ (HSG _) (aA.trans HE) ?_;intro w3 HE3;clear HSG g1 g2 g3 HE;have HMID:Hid (cK w w3 g0 w.heap.size oW m d (.slice av k cv) ld tags) :=
       ⟨HMM.ext HE3,HBB.ext HE3,HLD.ext HE3,HSAME,HP.trans (HE3.grownS _),n7 HDS HE3.size⟩
      have Kf:((a:Int) == (L:Int))=false:=(by rw [beq_eq_false_iff_ne];omega);obtain ⟨bak,xZ⟩:=oN (((a:Int) != (k:Int)))
      have zd:Hid (a≠k->∀ W,aA w3 W->∃ s t,tags[k]?=some s/\tags[a]?=some t/\W.cell? ⟨g0,k,none⟩=some (.slice (some ⟨s.1,0,none⟩) C s.2)/\W.cell? ⟨g0,a,none⟩=some (.slice (some ⟨t.1,0,none⟩) C t.2)/\W.frozen? ⟨g0,k,none⟩=false/\W.frozen? ⟨g0,a,none⟩=false/\C<=s.2/\C<=t.2/\s.2<=9223372036854775807/\t.2<=9223372036854775807 /\
        cK w ((W.setCell ⟨g0,k,none⟩ (.slice (some ⟨t.1,0,none⟩) C t.2)).setCell ⟨g0,a,none⟩ (.slice (some ⟨s.1,0,none⟩) C s.2)) g0 w.heap.size oW (bu m k a) d (.slice av k cv) ld (bu tags k a)/\(∀ b,cV g0 (bu tags k a) b->b<w.heap.size)):=by
       intro hne W hW;have hmid:=HMID.ext hW;have hk2:m[k]?=some (cC m k):=gZ (by have:=rl.2;omega);have ha2:m[a]?=some (cC m a):=gZ (by have:=rl.2;omega);obtain ⟨s,hs,c1,h1,h2,-⟩:=hmid.mat.get hk2;obtain ⟨t,ht,c3,h3,h4,-⟩:=hmid.mat.get ha2;have e1:=rl.1.get hk2;have e2:=rl.1.get ha2;have hsw:=hmid.mat.swap hs ht hk2 ha2;rw [e1] at c1 h1 hsw;rw [e2] at c3 h3 hsw;have hgr:aH (·=g0) W ((W.setCell ⟨g0,k,none⟩ (.slice (some ⟨t.1,0,none⟩) C t.2)).setCell ⟨g0,a,none⟩ (.slice (some ⟨s.1,0,none⟩) C s.2)):=((aH.refl (·=g0) W).store (S:=(·=g0)) rfl _ _).store (S:=(·=g0)) rfl _ _;have AB:cV g0 oW g0:=List.mem_cons_self ..;have hgl:=HBW g0 AB;refine ⟨s,t,hs,ht,c1,c3,hmid.mat.free k,hmid.mat.free a,h1,h3,h2,h4,⟨hsw,hmid.box.grown hgr (fun e=>by omega),hmid.lead.grown hgr (fun b e=>by omega),fun b=>(A9_ hs ht).trans (hmid.same b),hmid.grown.trans (hgr.weak fun b _ e=>by rw [e];exact AB),by rw [gJ,gJ];exact hmid.size⟩,fun b hb=>HBW b ((hmid.same b).1 ((A9_ hs ht).1 hb))⟩
      have HBK:=np xZ
      go_upto_if 47 with (fail)
      go_cut [] from 48 to 63 (fun wx=>Hid (∃ oc,cK w wx g0 w.heap.size oW (if a=k then m else bu m k a) (if a=k then d else -d) (.slice av k cv) ld oc))
      case first =>
       by_cases vI:a=k
       ·have hb:bak=false:=(by rw [<- HBK.out,vI];simp);have HF:Hid (∃ oc,cK w w3 g0 w.heap.size oW (if a=k then m else bu m k a) (if a=k then d else -d) (.slice av k cv) ld oc):=by
         rw [if_pos vI,if_pos vI];exact ⟨tags,HMID⟩
        clear HBK xZ vI zd;subst hb;go_wp2_with fail;go_meet;exact HF
       ·have hb:bak=true:=(by rw [<- HBK.out];simp;omega);have KH:¬ k=a:=fun e=>vI e.symm;obtain ⟨s,t,hs,ht,c1,c3,f1,f3,h1,h3,h2,h4,hmid,IN⟩:=zd vI w3 (aA.refl _);have HM3:=np (hmid.ext (aA.drew _));have HBK2:=np IN;obtain ⟨b0,b1,b2,b3⟩:=HM3.box.cells;have CU:Hid (∀ W,oL 277 #[.agg #[.string (aB d.num),.string (aE d.den)]] W (.agg #[.string (aB (-d).num),.string (aE (-d).den)])):=fun W=>A0_ d W (HD.mono (by omega));clear hmid IN;have kL:k<L:=by omega
        clear HBK xZ;subst hb;go_wp2_with fail
        go_region
        all_goals
         go_wp2_with fail;refine (CU _).mono ?_;rintro e w5 ⟨rfl,oX⟩;have HM5:=np (HM3.ext oX);obtain ⟨d0,d1,d2,d3⟩:=HM5.box.cells;have HF:=np (HM5.setBox HBK2 (n9 _) (-d));clear oX CU b0 b1 b2 b3;go_wp2_with fail;go_meet;rw [if_neg vI,if_neg vI];exact ⟨_,HF⟩
      case rest =>
       have HHC:=np hcut;obtain ⟨oc,ve⟩:=HHC.out.out;clear hcut HHC HBK HMID zd HE3;obtain ⟨m1,ph⟩:∃ m1,m1=if a=k then m else bu m k a:=⟨_,rfl⟩
       obtain ⟨d1,qD⟩:∃ d1,d1=if a=k then d else -d:=⟨_,rfl⟩
       rw [<- ph,<- qD] at ve;have HM1:=np ve;have tu:Hid (bw C m1/\m1.length=L):=by
        unfold Hid;rw [ph];split;·exact rl
        ·exact ⟨rl.1.swp _ _,by rw [mE];exact rl.2⟩
       have HA1:Hid (fi 2500 m1):=by
        unfold Hid;rw [ph];split;·exact HA
        ·exact HA.swp _ _
       have HD1:Hid (RS 9001 d1):=by
        unfold Hid;rw [qD];split;·exact HD.mono (by omega)
        ·exact Z5E HD
       have Hx:k<m.length:=(by rw [rl.out.2];omega);have IT:a<m.length:=(by rw [rl.out.2];omega);obtain ⟨f,hf⟩:=oO (aJ m1 k c);obtain ⟨r,hr⟩:=oO (cC m1 k);have Gj:Hid (f≠0):=(by unfold Hid;rw [hf,ph,Z16 Hx IT];exact HX0);have HRK:Hid (m1[k]?=some r/\r.length=C/\r[c]?=some f):=by
        have h1:m1[k]?=some r:=(by rw [hr];exact gZ (by rw [tu.out.2];omega));have h2:=tu.1.get h1;refine ⟨h1,h2,?_⟩;have o8:c<r.length:=(by omega);rw [hf,my (x:=r[c]) (by rw [<- hr];exact ns o8)];exact ns o8
       have HNX:Hid (ah m0 (c+1)=⟨dS (m1.set k (dK r f)) (dK r f) c k L,ld++[c],d1*f⟩):=by
        unfold Hid;have hkl:=HK.out;rw [rT.out,Z0r (a:=a) (m1:=m1) (d1:=d1) (r:=r) (f:=f) ?_ ?_ ?_ ?_ ?_ ?_,List.length_set,<- hkl,tu.out.2]
        ·rw [rl.out.2,<- hkl];exact x3_ m c _ k a Ee (by omega) HZ (fun _=>HX0)
        ·rw [rl.out.2];exact Bc
        ·rw [<- hkl];exact ph
        ·rw [<- hkl];exact qD
        ·rw [<- hkl];exact hr
        ·rw [<- hkl];exact hf
       have KD:k<L:=(by omega);have Kc:c<C:=(by omega);clear ve ph qD hf hr Hx IT HMM HBB HLD HA HD rl rT HX0 HZ hsz HDS HOK Ee pT C5 Bc Kf xZ;have AW:Hid (aA wb wc):=Below.trans HWB (HM1.grown.belowE (B:=wb.heap.size) HBL HWB.size);have xo:Hid (∀ b,cV g0 oc b->b<w.heap.size):=fun b hb=>HBW b ((HM1.same b).1 hb);obtain ⟨dd,tc⟩:=oO (d1*f);rw [<- tc] at HNX;have tA:Hid (∀ W,aA wc W->oL 278 #[.agg #[.string (aB d1.num),.string (aE d1.den)],.agg #[.string (aB f.num),.string (aE f.den)]] W (.agg #[.string (aB dd.num),.string (aE dd.den)])):=fun W hW=>by
        rw [tc];exact B9_ d1 f W (HD1.mono (by omega)) ((HA1.get HRK.1 HRK.2.2).mono (by omega)) (HT.ext (AW.trans hW))
       obtain ⟨t,ht,c1,h1,h2,hrow,hne,hbq⟩:=HM1.mat.get HRK.1;rw [HRK.out.2.1] at c1 h1;have g2:=hrow.num c f HRK.2.2;have g3:=hrow.den c f HRK.2.2;have wP:Hid (oc[k]?=some t):=ht;obtain ⟨W4,Bf,hE4,D3,hb4⟩:=dF wc (.string (aB f.num)) (.string (aE f.den)) 246;have HE4:=np hE4;have hDF:=HM1.size;have HB4:Hid (∀ W,aA W4 W->ck W wc.heap.size f):=fun W hW=>aF hb4 hW;obtain ⟨e0,e1,e2,e3⟩:=(HB4 W4 (aA.refl _)).cells;obtain ⟨b0,b1,b2,b3⟩:=(HM1.ext hE4).box.cells;clear ht hrow hne hbq hE4 D3 hb4 tc
       go_upto_region 15 with (fail)
       obtain ⟨wq,rfl⟩:∃ wq:World,wq=wc:=⟨_,rfl⟩
       go_cut [] from 71 to 73 (fun wx=>Hid (cK w wx g0 w.heap.size oW m1 dd (.slice av k cv) ld oc)/\Hid (ck wx wq.heap.size f))
       case first =>
        clear c1 g2 g3;go_wp2_with fail;refine (tA _ HE4).mono ?_;rintro e w5 ⟨rfl,oX⟩;have HM5:=np (HM1.ext (HE4.trans oX));have HBF:=HB4 _ oX;have HF:=np (HM5.setBox xo (n9 _) dd);have HG:=np (HBF.grown (S:=(·=w.heap.size)) (((aH.refl (·=w.heap.size) w5).store (S:=(·=w.heap.size)) rfl 0 (.string (aB dd.num))).store (S:=(·=w.heap.size)) rfl 1 (.string (aE dd.den))) (by omega));clear b0 b1 b2 b3 e0 e1 e2 e3 HBF oX;obtain ⟨b0,b1,b2,b3⟩:=HM5.box.cells;go_wp2_with fail;go_meet;exact ⟨HF,HG⟩
       case rest =>
       obtain ⟨HM6,Cc⟩:=hcut;have Fv:w.heap.size<=wq.heap.size:=(by omega);clear HM1 HE4 HB4 tA c1 g2 g3 b0 b1 b2 b3 e0 e1 e2 e3 Bf AW;obtain ⟨t',tF,c1,-,-,-⟩:=HM6.mat.get HRK.1;obtain rfl:t=t':=oA (wP.symm.trans tF);rw [HRK.out.2.1] at c1;clear tF;go_wp2_with fail;clear c1
       go_loopw [79] (fun tv wr=>∃ j:Nat,tv=.int .i64 j/\j<=C/\Hid (cK w wr g0 w.heap.size oW (m1.set k (eG (dK r f) r j)) dd (.slice av k cv) ld oc)/\Hid (ck wr wq.heap.size f)) (fun tv _=>C-(intOf tv).toNat)
       case atStart=>exact ⟨0,rfl,by omega,by unfold Hid;rw [B2_,L8_ HRK.out.1];exact HM6,Cc⟩
       case round =>
        obtain ⟨j,rfl,L9,wY,AX⟩:=hrel;obtain ⟨wj,rfl⟩:∃ wj:World,wj=wr:=⟨_,rfl⟩;clear HM6 Cc;have CZ:Hid ((dK r f).length=r.length):=V5_ r f;by_cases hj:j<C
        ·have hrl:=HRK.2.1;obtain ⟨x,hx⟩:∃ x,r[j]?=some x:=⟨_,ns (by omega)⟩;have hP:(m1.set k (eG (dK r f) r j))[k]?=some (eG (dK r f) r j):=i2_ HRK.1;have zM:(eG (dK r f) r j).length=C:=(by rw [p6_ _ _ _ CZ.out];exact HRK.2.1);have hPx:=p5_ CZ (n9 j) hx;obtain ⟨t',tF,c1,-,-,hrow,-⟩:=wY.mat.get hP;obtain rfl:t=t':=oA (wP.symm.trans tF);rw [zM] at c1;have g2:=hrow.num j x hPx;have g3:=hrow.den j x hPx;obtain ⟨e0,e1,-,-⟩:=AX.cells;obtain ⟨q,hq⟩:=oO (x / f);have DS:Hid (aA wb wj):=Below.trans HWB (wY.grown.belowE (B:=wb.heap.size) HBL HWB.size);have Gm:Hid (∀ W,aA wj W->oL 279 #[.agg #[.string (aB x.num),.string (aE x.den)],.agg #[.string (aB f.num),.string (aE f.den)]] W (.tuple #[.agg #[.string (aB q.num),.string (aE q.den)],.int .i64 0])):=fun W hW=>by
          rw [hq];exact Z0d x f W ((HA1.get HRK.1 hx).mono (by omega)) ((HA1.get HRK.1 HRK.2.2).mono (by omega)) Gj (HT.ext (DS.trans hW))
         have wX:Hid (∀ W,aA wj W->cK w ((W.setCell ⟨t.1,j*2,none⟩ (.string (aB q.num))).setCell ⟨t.1,j*2+1,none⟩ (.string (aE q.den))) g0 w.heap.size oW (m1.set k (eG (dK r f) r (j+1))) dd (.slice av k cv) ld oc/\ck ((W.setCell ⟨t.1,j*2,none⟩ (.string (aB q.num))).setCell ⟨t.1,j*2+1,none⟩ (.string (aE q.den))) wq.heap.size f):=fun W hW=>by
          have hn:=(wY.ext hW).setEl xo wP hP (j:=j) (by rw [zM];exact hj) q;rw [List.set_set,p7_ CZ.out (by rw [hq];exact b9_ hx)] at hn;exact ⟨hn.1,hn.2 _ _ (AX.ext hW) Fv⟩
         have HFR:Hid (∀ W,aA wj W->W.frozen? ⟨t.1,j*2,none⟩=false/\W.frozen? ⟨t.1,j*2+1,none⟩=false):=fun W hW=>⟨(hrow.ext hW).free _,(hrow.ext hW).free _⟩
         clear tF hP zM hPx hrow hx hq hrl;go_wp2_with fail;refine ks (fun w'=>w'.cell? ⟨g0,k,none⟩=some (.slice (some ⟨t.1,0,none⟩) C t.2)/\w'.cell? ⟨t.1,j*2,none⟩=some (.string (aB x.num))/\w'.cell? ⟨t.1,j*2+1,none⟩=some (.string (aE x.den))/\w'.cell? ⟨wq.heap.size,0,none⟩=some (.string (aB f.num))/\w'.cell? ⟨wq.heap.size,1,none⟩=some (.string (aE f.den))/\Hid (aA wj w')) 18 (by kernel_rfl) ⟨(aA.drew wj).cell c1,(aA.drew wj).cell g2,(aA.drew wj).cell g3,(aA.drew wj).cell e0,(aA.drew wj).cell e1,aA.drew wj⟩ (fun oR=>?_);refine rA [0,1,2,3,4,5,6,7,8,9,10,11,12] ?_
         iterate 13 ((first|(refine rL (v:=?_) (by rfl) (Or.inl ⟨by rfl,?_⟩) ?_;rotate_left;·((intro w' qW);(try dsimp only at qW);(try go_simp);(try with_reducible rfl)))|(refine rW (v:=?_) (by rfl) (Or.inl ⟨by rfl,?_⟩) ?_;rotate_left;·((intro w');(try go_simp);(try with_reducible rfl))));(try simp only [Act.put,ao,aq,aw]))
         refine rE ?_;refine dz 13 (by kernel_rfl) rfl (fun K hK=>?_);go_simp
         (go_at_call 279;refine (Gm _ oR.2.2.2.2.2).mono ?_)
         rintro e w5 ⟨rfl,oX⟩;go_wp2_with fail;refine hK _ _ (⟨oX.cell oR.1,oX.cell oR.2.1,oX.cell oR.2.2.1,oX.cell oR.2.2.2.1,oX.cell oR.2.2.2.2.1,aA.trans oR.2.2.2.2.2 oX⟩) (fun oR=>?_);clear hK K
         (try simp only [Act.put,ao,aq,aw])
         refine rA [14,15,16,17] ?_
         iterate 4 ((refine rW (v:=?_) (by rfl) (Or.inl ⟨by rfl,?_⟩) ?_;rotate_left;·((intro w');(try go_simp);(try with_reducible rfl)));(try simp only [Act.put,ao,aq,aw]))
         refine rE ?_;have z1:=oR.2.1;have z2:=oR.2.2.1;have z3:=HFR _ oR.2.2.2.2.2;obtain ⟨z4,z5⟩:=z3;have HM7:=wX _ oR.2.2.2.2.2;refine gX 18 (by kernel_rfl) (by kernel_rfl) (by kernel_rfl) rfl (fun K hK=>?_);go_simp;refine hK _ _ ?_;clear hK K
         (try simp only [Act.put,ao,aq,aw])
         go_wp2_with fail;go_roundw
         case rel=>exact ⟨j+1,by go_num,by omega,HM7.1,HM7.2⟩
         case measure=>simp [intOf];omega
        ·have CX:Hid (cK w wj g0 w.heap.size oW (m1.set k (dK r f)) dd (.slice av k cv) ld oc):=by
          have h8:=wY.out;rw [p4_ _ _ _ CZ.out (by rw [HRK.out.2.1];omega)] at h8;exact h8
         obtain ⟨p,hp⟩:=oO (dK r f);have Le:Hid (∀ (j:Nat) y,p[j]?=some y->RS 5002 y):=by
          intro j y hy;rw [hp] at hy;unfold dK at hy;rw [nx] at hy;obtain ⟨x,hx,rfl⟩:=Option.map_eq_some_iff.1 hy;exact (Z4c (HA1.get HRK.1 hx) (HA1.get HRK.1 HRK.2.2) Gj).mono (by omega)
         have HPL:Hid (p.length=C):=(by unfold Hid;rw [hp,V5_];exact HRK.2.1);rw [<- hp] at CX HNX;obtain ⟨m2,qm⟩:=oO (m1.set k p);rw [<- qm] at CX HNX;have zg:Hid (bw C m2/\m2.length=L):=(by unfold Hid;rw [qm];exact ⟨tu.1.set _ HPL,by rw [List.length_set];exact tu.2⟩);have JJ:Hid (m2[k]?=some p):=(by unfold Hid;rw [qm];exact i2_ HRK.1);have xI:Hid (∀ (i j:Nat) ri x,i≠k->m2[i]?=some ri->ri[j]?=some x->RS 2500 x):=by
          intro i j ri x ru qY hx;rw [qm,oK,if_neg (fun e=>ru e.symm)] at qY;exact HA1.get qY hx
         obtain ⟨tk,xw,c2,hk1,hk2,-⟩:=CX.mat.get JJ;obtain rfl:t=tk:=oA (wP.symm.trans xw);clear xw c2 hp qm wY AX CZ tu HA1 HD1 Gj HRK;go_wp2_with fail
         go_loopw [103] (fun tv wr=>∃ i:Nat,tv=.int .i64 i/\i<=L/\Hid (cK w wr g0 w.heap.size oW (dS m2 p c k i) dd (.slice av k cv) ld oc)) (fun tv _=>L-(intOf tv).toNat)
         case atStart=>exact ⟨0,rfl,by omega,CX⟩
         case round =>
          obtain ⟨i,rfl,KR,HMI⟩:=hrel;obtain ⟨wi,rfl⟩:∃ wi:World,wi=wr:=⟨_,rfl⟩;clear CX;by_cases hi:i<L
          ·obtain ⟨M,hM⟩:=oO (dS m2 p c k i);obtain ⟨ri,qY⟩:=oO (cC M i);have Br:M.length=L:=(by rw [hM,jm];exact zg.2);have AH:M[i]?=some ri:=(by rw [qY];exact gZ (by omega));have Hd:bw C M:=(by rw [hM];exact zg.1.elim HPL c k i (by rw [zg.out.2];omega));have hril:=Hd.get AH;have JL:Hid (m2[i]?=some ri):=(by unfold Hid;rw [<- V7_ m2 p c k i i (n9 _),<- hM];exact AH);have LR:Hid (M[k]?=some p):=(by unfold Hid;rw [hM,O3_];exact JJ);have wS:Hid (dS m2 p c k (i+1)=M.set i (iA p c k i ri)):=(by unfold Hid;rw [qY,hM];rfl);obtain ⟨x,hx⟩:∃ x,ri[c]?=some x:=⟨_,ns (by omega)⟩;have HXG:Hid (ri.getD c 0=x):=(by unfold Hid;rw [nu,hx];rfl);rw [<- hM] at HMI;obtain ⟨ti,Dx,c1,vn,qA,hrow,hne,hbq⟩:=HMI.mat.get AH;rw [hril] at c1 vn;have yP:Hid (oc[i]?=some ti):=Dx;have g2:=hrow.num c x hx;have g3:=hrow.den c x hx;have HRI:Hid (M[i]?=some ri/\ri.length=C/\ri[c]?=some x):=⟨AH,hril,hx⟩;obtain ⟨W9,ry,pP,Jr,IQ⟩:=dF wi (.string (aB x.num)) (.string (aE x.den)) 246;have HE9:=np pP;have JQ:Hid (∀ W,aA W9 W->ck W wi.heap.size x):=fun W hW=>aF IQ hW;have Fy:w.heap.size<=wi.heap.size:=by have:=HMI.size;omega
           obtain ⟨e0,e1,e2,e3⟩:=(JQ W9 (aA.refl _)).cells;clear hM qY Br AH Hd hril hx Dx hrow hne hbq pP Jr IQ;by_cases ru:i=k
           ·have hb:((i:Int) == (k:Int))=true:=(by rw [ru];exact beq_self_eq_true _);have wT:Hid (cK w W9 g0 w.heap.size oW (dS m2 p c k (i+1)) dd (.slice av k cv) ld oc):=by
             unfold Hid;rw [wS.out];unfold iA;rw [if_pos (.inl ru),L8_ HRI.out.1];exact HMI.ext HE9
            clear ru;go_wp2_with fail;go_roundw
            case rel=>exact ⟨i+1,by go_num,by omega,wT⟩
            case measure=>simp [intOf];omega
           ·have hb:((i:Int) == (k:Int))=false:=(by rw [beq_eq_false_iff_ne];omega);have HIK:=np ru;have HSG:Hid (∀ W,oL 275 #[.agg #[.string (aB x.num),.string (aE x.den)]] W (.int .i64 x.num.sign)):=fun W=>X4_ x W;have hsz:=X5_ x;obtain ⟨Li,Ao⟩:=oO x.num.sign;rw [<- Ao] at HSG hsz;clear Ao ru;by_cases pQ:x=0
            ·rw [oH pQ] at hsz;have HX0:=np pQ;clear pQ;go_wp2_with fail;refine (HSG _).mono ?_;rintro e w5 ⟨rfl,oX⟩;have wT:Hid (cK w w5 g0 w.heap.size oW (dS m2 p c k (i+1)) dd (.slice av k cv) ld oc):=by
              unfold Hid;rw [wS.out];unfold iA;rw [if_pos (.inr (HXG.out.trans HX0.out)),L8_ HRI.out.1];exact HMI.ext (HE9.trans oX)
             clear oX HSG c1 g2 g3 e0 e1 e2 e3;go_wp2_with fail;go_roundw
             case rel=>exact ⟨i+1,by go_num,by omega,wT⟩
             case measure=>simp [intOf];omega
            ·rw [oG pQ] at hsz;have HX0:=np pQ;clear pQ;go_wp2_with fail;refine (HSG _).mono ?_;rintro e w5 ⟨rfl,oX⟩;have HM9:=np (HMI.ext (HE9.trans oX));have HBX9:=np (JQ _ oX);have ze:Hid (dS m2 p c k (i+1)=M.set i (fh ri p x)):=by
              unfold Hid;rw [wS.out];unfold iA;rw [HXG.out,if_neg (fun h=>h.elim HIK.out HX0.out)]
             have c1':=(HE9.trans oX).cell c1;have HSL:Hid ((fh ri p x).length=ri.length):=A6_ _ _ _ (by rw [HPL.out,HRI.out.2.1]);clear oX HSG c1 g2 g3 e0 e1 e2 e3;go_wp2_with fail;clear c1'
             go_loopw [126] (fun tv wr=>∃ j:Nat,tv=.int .i64 j/\j<=C/\Hid (cK w wr g0 w.heap.size oW (M.set i (eG (fh ri p x) ri j)) dd (.slice av k cv) ld oc)/\Hid (ck wr wi.heap.size x)) (fun tv _=>C-(intOf tv).toNat)
             case atStart=>exact ⟨0,rfl,by omega,by unfold Hid;rw [B2_,L8_ HRI.out.1];exact HM9,HBX9⟩
             case round =>
              obtain ⟨j,rfl,KL,wY,AX⟩:=hrel;obtain ⟨wk,rfl⟩:∃ wk:World,wk=wr:=⟨_,rfl⟩;clear HM9 HBX9;by_cases KM:j<C
              ·have hrl:=HRI.2.1;have hpl:=HPL.out;obtain ⟨u,hu⟩:∃ u,ri[j]?=some u:=⟨_,ns (by omega)⟩;obtain ⟨y,hy⟩:∃ y,p[j]?=some y:=⟨_,ns (by omega)⟩;have hP:(M.set i (eG (fh ri p x) ri j))[i]?=some (eG (fh ri p x) ri j):=i2_ HRI.1;have Ii:(M.set i (eG (fh ri p x) ri j))[k]?=some p:=(by rw [oK,if_neg HIK.out];exact LR);have zM:(eG (fh ri p x) ri j).length=C:=(by rw [p6_ _ _ _ HSL.out];exact HRI.2.1);have hPu:=p5_ HSL (n9 j) hu;obtain ⟨t',tF,c1,-,-,hrow,-⟩:=wY.mat.get hP;obtain rfl:ti=t':=oA (yP.symm.trans tF);obtain ⟨t',Al,c2,-,-,vU,-⟩:=wY.mat.get Ii;obtain rfl:t=t':=oA (wP.symm.trans Al);rw [zM] at c1;rw [hpl] at c2;have g2:=hrow.num j u hPu;have g3:=hrow.den j u hPu;have y2:=vU.num j y hy;have y3:=vU.den j y hy;obtain ⟨e0,e1,-,-⟩:=AX.cells;obtain ⟨s1,hs1⟩:=oO (x*y);obtain ⟨q,hq⟩:=oO (u-s1);have DS:Hid (aA wb wk):=Below.trans HWB (wY.grown.belowE (B:=wb.heap.size) HBL HWB.size);have hxs:RS 2500 x:=xI i c ri x HIK JL HRI.2.2;have hys:RS 5002 y:=Le j y hy;have tY:RS 2500 u:=xI i j ri u HIK JL hu;have CV:Hid (∀ W,aA wk W->oL 278 #[.agg #[.string (aB x.num),.string (aE x.den)],.agg #[.string (aB y.num),.string (aE y.den)]] W (.agg #[.string (aB s1.num),.string (aE s1.den)])):=fun W hW=>by
                rw [hs1];exact B9_ x y W (hxs.mono (by omega)) (hys.mono (by omega)) (HT.ext (DS.trans hW))
               have pC:Hid (∀ W,aA wk W->oL 280 #[.agg #[.string (aB u.num),.string (aE u.den)],.agg #[.string (aB s1.num),.string (aE s1.den)]] W (.agg #[.string (aB q.num),.string (aE q.den)])):=fun W hW=>by
                rw [hq];exact Z0e u s1 W (tY.mono (by omega)) (by rw [hs1];exact (Z4j hxs hys).mono (by omega)) (HT.ext (DS.trans hW))
               have wX:Hid (∀ W,aA wk W->cK w ((W.setCell ⟨ti.1,j*2,none⟩ (.string (aB q.num))).setCell ⟨ti.1,j*2+1,none⟩ (.string (aE q.den))) g0 w.heap.size oW (M.set i (eG (fh ri p x) ri (j+1))) dd (.slice av k cv) ld oc/\ck ((W.setCell ⟨ti.1,j*2,none⟩ (.string (aB q.num))).setCell ⟨ti.1,j*2+1,none⟩ (.string (aE q.den))) wi.heap.size x):=fun W hW=>by
                have hn:=(wY.ext hW).setEl xo yP hP (j:=j) (by rw [zM];exact KM) q;rw [List.set_set,p7_ HSL.out (by rw [hq,hs1];exact Z0s hu hy)] at hn;exact ⟨hn.1,hn.2 _ _ (AX.ext hW) Fy⟩
               have HFR:Hid (∀ W,aA wk W->W.frozen? ⟨ti.1,j*2,none⟩=false/\W.frozen? ⟨ti.1,j*2+1,none⟩=false):=fun W hW=>⟨(hrow.ext hW).free _,(hrow.ext hW).free _⟩
               clear tF Al hP Ii zM hPu hrow vU hu hy hq hs1 hrl hpl hxs hys tY;go_wp2_with fail;refine ks (fun w'=>w'.cell? ⟨g0,i,none⟩=some (.slice (some ⟨ti.1,0,none⟩) C ti.2)/\w'.cell? ⟨g0,k,none⟩=some (.slice (some ⟨t.1,0,none⟩) C t.2)/\w'.cell? ⟨ti.1,j*2,none⟩=some (.string (aB u.num))/\w'.cell? ⟨ti.1,j*2+1,none⟩=some (.string (aE u.den))/\w'.cell? ⟨t.1,j*2,none⟩=some (.string (aB y.num))/\w'.cell? ⟨t.1,j*2+1,none⟩=some (.string (aE y.den))/\w'.cell? ⟨wi.heap.size,0,none⟩=some (.string (aB x.num))/\w'.cell? ⟨wi.heap.size,1,none⟩=some (.string (aE x.den))/\Hid (aA wk w')) 23 (by kernel_rfl) ⟨(aA.drew wk).cell c1,(aA.drew wk).cell c2,(aA.drew wk).cell g2,(aA.drew wk).cell g3,(aA.drew wk).cell y2,(aA.drew wk).cell y3,(aA.drew wk).cell e0,(aA.drew wk).cell e1,aA.drew wk⟩ (fun oR=>?_);refine rA [0,1,2,3,4,5,6,7,8,9,10,11,12,13,14,15,16,17,18,19] ?_
               iterate 20 ((first|(refine rL (v:=?_) (by rfl) (Or.inl ⟨by rfl,?_⟩) ?_;rotate_left;·((intro w' qW);(try dsimp only at qW);(try go_simp);(try with_reducible rfl)))|(refine rW (v:=?_) (by rfl) (Or.inl ⟨by rfl,?_⟩) ?_;rotate_left;·((intro w');(try go_simp);(try with_reducible rfl))));(try simp only [Act.put,ao,aq,aw]))
               refine rE ?_;refine dz 20 (by kernel_rfl) rfl (fun K hK=>?_);go_simp
               (go_at_call 278;refine (CV _ oR.2.2.2.2.2.2.2.2).mono ?_)
               rintro e w5 ⟨rfl,oX⟩;go_wp2_with fail;refine hK _ _ (⟨oX.cell oR.1,oX.cell oR.2.1,oX.cell oR.2.2.1,oX.cell oR.2.2.2.1,oX.cell oR.2.2.2.2.1,oX.cell oR.2.2.2.2.2.1,oX.cell oR.2.2.2.2.2.2.1,oX.cell oR.2.2.2.2.2.2.2.1,aA.trans oR.2.2.2.2.2.2.2.2 oX⟩) (fun oR=>?_);clear hK K
               (try simp only [Act.put,ao,aq,aw])
               refine dz 21 (by kernel_rfl) rfl (fun K hK=>?_);go_simp
               (go_at_call 280;refine (pC _ oR.2.2.2.2.2.2.2.2).mono ?_)
               rintro e w5 ⟨rfl,oX⟩;go_wp2_with fail;refine hK _ _ (⟨oX.cell oR.1,oX.cell oR.2.1,oX.cell oR.2.2.1,oX.cell oR.2.2.2.1,oX.cell oR.2.2.2.2.1,oX.cell oR.2.2.2.2.2.1,oX.cell oR.2.2.2.2.2.2.1,oX.cell oR.2.2.2.2.2.2.2.1,aA.trans oR.2.2.2.2.2.2.2.2 oX⟩) (fun oR=>?_);clear hK K
               (try simp only [Act.put,ao,aq,aw])
               refine tW (v:=?_) 22 rfl (Or.inl ⟨by rfl,?_⟩) ?_;rotate_left;·((intro w');(try go_simp);(try with_reducible rfl))
               (try simp only [Act.put,ao,aq,aw])
               have z1:=oR.2.2.1;have z2:=oR.2.2.2.1;obtain ⟨z4,z5⟩:=HFR _ oR.2.2.2.2.2.2.2.2;have HM7:=wX _ oR.2.2.2.2.2.2.2.2;refine gX 23 (by kernel_rfl) (by kernel_rfl) (by kernel_rfl) rfl (fun K hK=>?_);go_simp;refine hK _ _ ?_;clear hK K
               (try simp only [Act.put,ao,aq,aw])
               go_wp2_with fail;go_roundw
               case rel=>exact ⟨j+1,by go_num,by omega,HM7.1,HM7.2⟩
               case measure=>simp [intOf];omega
              ·have wT:Hid (cK w wk g0 w.heap.size oW (dS m2 p c k (i+1)) dd (.slice av k cv) ld oc):=by
                have h8:=wY.out;rw [p4_ _ _ _ HSL.out (by rw [HRI.out.2.1];omega)] at h8;unfold Hid;rw [ze.out];exact h8
               go_wp2_with fail;go_roundw
               case rel=>exact ⟨i+1,by go_num,by omega,wT⟩
               case measure=>simp [intOf];omega
          ·have HM3:Hid (cK w wi g0 w.heap.size oW (dS m2 p c k L) dd (.slice av k cv) ld oc):=by
            have Ej:i=L:=(by omega);rw [<- Ej];exact HMI
           have HB3:=np HM3.lead.build;have HLL:Hid (ld.length<1000000):=(by unfold Hid;rw [<- HK.out];omega);have hszr:w.heap.size+1<=wi.heap.size:=HM3.size;go_wp2_with (at_builtin;go_must (refine jY _ rfl _ _ 29 rfl (w.heap.size+1) 3 (.int .i64 0) 1 8 underlying29 jK rfl (by decide) (.slice av k cv) Z5T ld c #[.int .i64 c] 3 rfl HB3 rfl rfl ?e1 (fun _ _=>rfl) HLL (by decide) hszr ?_))
           all_goals first | (simp [Value.oneCell'];done) | skip
           intro v' w5 ow qM hb5 hs5 _;have HF:=np ((HM3.push xo (n9 _) hb5 ow.ownI).redOf HNX);clear ow qM hb5 HB3;go_wp2_with fail;go_roundw
           case rel=>exact ⟨c+1,oc,by omega,by go_num,HF⟩
           case measure=>simp [intOf];omega
    ·obtain rfl:a=L:=(by omega);have HMID:Hid (cK w wi g0 w.heap.size oW m d (.slice av k cv) ld tags) :=
      ⟨HMM.ext HE,HBB.ext HE,HLD.ext HE,HSAME,HP.trans (HE.grownS _),n7 HDS HE.size⟩
     obtain ⟨z,hz⟩:∃ z:Rat,z=0:=⟨_,rfl⟩;have HNX:Hid (ah m0 (c+1)=⟨m,ld,z⟩):=by
      unfold Hid;rw [rT.out,Z0q,hz];rw [rl.out.2,<- HK.out];exact x3_ m c _ k a Ee (by omega) HZ (fun h=>by omega)
     have qS:Hid (∀ W,oL 276 #[] W (.agg #[.string (aB z.num),.string (aE z.den)])):=by
      unfold Hid;rw [hz];exact fun W=>G7_ W
     clear hz rT HZ HMM HBB HLD;go_wp2_with fail;refine (qS _).mono ?_;rintro e w5 ⟨rfl,oX⟩;have HM5:=np (HMID.ext oX);obtain ⟨b0,b1,b2,b3⟩:=HM5.box.cells;have HF:=np (HM5.setBox Gq (n9 _) z);clear oX qS;go_wp2_with fail;go_roundw
     case rel=>exact ⟨c+1,tags,by omega,by go_num,HF.redOf HNX⟩
     case measure=>simp [intOf];omega
  ·obtain rfl:c=n:=(by omega);have HMID:=np HR.mid;have Gq:Hid (∀ b,cV g0 tags b->b<w.heap.size):=fun b hb=>HBW b ((HR.same b).1 hb);obtain ⟨d,hd⟩:=oO ((ah m0 c).det);rw [<- hd] at HMID;have Lc:Hid (d=(ah m0 c).det):=hd;have HM6:=np (HMID.ext (aA.drew _));obtain ⟨b0,b1,b2,b3⟩:=HMID.box.cells;have HF:=np (HM6.setBox Gq (n9 _) d);clear hd HR HP Lb HOK HSH;go_wp2_with fail
   go_region
   all_goals
    go_wp2_with fail;refine bodyPost_ret (X8_ (by rfl) _ _ w.heap.size 246 #[.string (aB d.num),.string (aE d.den)] (0,0) _ (.slice av k cv) (by rfl) (by rfl) HF.box underlying246 (by rfl) (by kernel_rfl)) (by rfl) ⟨_,tags,by rw [<- Lc.out];rfl,HF.lead.low (Nat.le_succ _),HF.mat,HF.same,HF.grown⟩
def cZ (r:oQ):List Rat:=r.map fun x:Int=>(x:Rat)
theorem kt (r:oQ):(cZ r).length=r.length:=by simp [cZ]
def df (m:oP):List (List Rat):=m.map cZ
theorem L2_ (m:oP):(df m).length=m.length:=by simp [df]
structure mX (m:List (List Rat)):Prop where
 val:∀ i j,aJ m i j=0\/aJ m i j=1
 one:∀ i i' j,aJ m i j=1->aJ m i' j=1->i=i'
theorem x1_ {m:List (List Rat)} {i c:Nat} (h:m.length<=i):aJ m i c=0:=by
 unfold aJ cC;rw [nu (l:=m),n_ h];simp
theorem l4_ {m:List (List Rat)} {a b:Nat} (ha:a<m.length) (hb:b<m.length) (i j:Nat):aJ (bu m a b) i j=aJ m (if i=b then a else if i=a then b else i) j:=by
 unfold aJ cC;rw [nu (l:=bu m a b),nu (l:=m),iM (ns ha) (ns hb)];by_cases h1:i=b;·rw [if_pos h1,if_pos h1,ns ha]
 ·rw [if_neg h1,if_neg h1];by_cases h2:i=a;·rw [if_pos h2,if_pos h2,ns hb]
  ·rw [if_neg h2,if_neg h2]
theorem mX.swp {m:List (List Rat)} (h:mX m) {a b:Nat} (ha:a<m.length) (hb:b<m.length):mX (Proofs.YtoonaddcfakamaaGreatDoor.bu m a b):=by
 refine ⟨fun i j=>by rw [l4_ ha hb];exact h.val _ _,fun i i' j h1 h2=>?_⟩;rw [l4_ ha hb] at h1 h2;have e:=h.one _ _ _ h1 h2
 repeat' split at e
 all_goals omega
theorem D6_ (m:List (List Rat)) (c:Nat):∀ (f a:Nat),a<=fC m c f a/\fC m c f a<=a+f/\(∀ j,a<=j->j<fC m c f a->aJ m j c=0)/\(fC m c f a<a+f->aJ m (fC m c f a) c≠0)
 | 0,a=>⟨n9 _,n9 _,fun j h1 h2=>by have:j<a:=h2;omega,fun h=>by have:a<a+0:=h;omega⟩
 | f+1,a=>by
  unfold fC;by_cases h:aJ m a c=0
  ·rw [if_pos h];obtain ⟨h1,h2,h3,h4⟩:=D6_ m c f (a+1);refine ⟨by omega,by omega,fun j H7 vk=>?_,fun hh=>h4 (by omega)⟩;by_cases e:j=a;·rw [e];exact h
   ·exact h3 j (by omega) vk
  ·rw [if_neg h];exact ⟨n9 _,by omega,fun j h1 h2=>by omega,fun _=>h⟩
theorem mX.rs {m:List (List Rat)} (h:mX m):fi 2500 m:=by
 intro r hr x hx;obtain ⟨i,hi⟩:=List.getElem?_of_mem hr;obtain ⟨j,hj⟩:=List.getElem?_of_mem hx;have e:aJ m i j=x:=my (by rw [ku hi];exact hj);have hs:(aB 1).size<=2/\(aB 0).size<=2/\(aE 1).size<=2:=by
  unfold aB aE Lib.itoa;rw [if_neg (by omega),if_neg (by omega),show (1:Int).toNat=1 from rfl,show (0:Int).toNat=0 from rfl,Lib.decDigits_one (by omega),Lib.decDigits_one (by omega)];exact ⟨by decide,by decide,by decide⟩
 rcases h.val i j with h0 | h0
 ·rw [<- e,h0];exact ⟨n8 hs.2.1 (by omega),n8 hs.2.2 (by omega)⟩
 ·rw [<- e,h0];exact ⟨n8 hs.1 (by omega),n8 hs.2.2 (by omega)⟩
def ft (xss:oP) (mo:Nat->List Rat) (i:Nat):List (List Rat):=(List.range i).map fun k=>cZ (xss.getD k [])++mo k
theorem i1_ {xss:oP} {mo:Nat->List Rat} {i:Nat} {r:oQ} (h:xss[i]?=some r):ft xss mo (i+1)=ft xss mo i++[cZ r++mo i]:=by
 unfold ft;rw [List.range_succ,List.map_append,List.map_cons,List.map_nil,nu (l:=xss),h];rfl
theorem nX (xss:oP) (mo:Nat->List Rat) (i:Nat):(ft xss mo i).length=i:=by simp [ft]
theorem Z0k {r:oQ} {k:Nat} {x:Int} (h:r[k]?=some x):cZ (r.take (k+1))=cZ (r.take k)++[(x:Rat)]:=by
 unfold cZ;rw [nz,h,List.map_append];rfl
def Z48 (g:Nat) (lb:Array Value) (n:Nat) (mo:Nat->List Rat) (w:World):Prop :=
 ∀ (i:Nat) W,i<n->aA w W->Calls prog g (#[.int .i64 (i:Int)]++lb) W fun e W'=>∃ u,e=.returned u/\dJ W' u (mo i)/\aA W W'
theorem v6_ (xss:oP) (v:Value) (g:Nat) (lb:Array Value) (mo:Nat->List Rat) (w:World) (h:aV w v xss) (hl:xss.length<=1000) (hr:∀ r∈xss,r.length<=1000)
  (rq:∀ i r,xss[i]?=some r->0<r.length+(mo i).length/\(mo i).length<=1000) (eg:∀ args w,(callFunc g args).run prog w=.ok (.enter g args) w) (hm:Z48 g lb xss.length mo w) (ht:aZ w) :
  Calls prog 204 #[v,.func (.func g) #[] lb] w fun e w'=>∃ u tags,e=.returned u/\bp iq 267 w' w.heap.size w.heap.size u tags (ft xss mo xss.length)/\aA w w':=by
 obtain ⟨a,c,rfl,h1,h2,-,hc⟩:=aP.open h;have HC:=np hc;have HM:=np hm;have HT:=np ht;have HR:=np hr;have HMO:=np rq;unfold maxLen at h2;clear h hc hm ht hr rq
 go_enter func204,ntmps204
 go_wp2_with fail
 go_loopw [13,5] (fun t v wr=>∃ (i:Nat) (tags:List (Nat×Nat)),i<=xss.length/\t=.int .i64 i/\aA w wr/\Hid (bp iq 267 wr w.heap.size w.heap.size v tags (ft xss mo i))) (fun t _ _=>xss.length-(intOf t).toNat)
 case atStart=>exact ⟨0,[],by omega,rfl,aA.refl _,bp.nil _ _ _ _ _⟩
 case round =>
  obtain ⟨i,tags,C0,rfl,hE,HO⟩:=hrel;obtain ⟨wo,rfl⟩:∃ wo:World,wo=wr:=⟨_,rfl⟩;have HE:=np hE;by_cases hlt:i<xss.length
  ·obtain ⟨b,off,rfl,hb,hcell⟩:=HC (by intro e;simp [e] at hlt);obtain ⟨r,hx⟩:∃ x,xss[i]?=some x:=⟨xss[i],ns hlt⟩;obtain ⟨vx,pV,o7⟩:=hcell i r hx;obtain ⟨ax,cx,rfl,k1,k2,-,hbd,kc⟩:=aK.open pV;have g1:=hE.cell o7;have HX:=np (aK.ext pV hE);have HK:=np kc;have HBD:=np hbd;have HI:=np hx;have HSU:=np (i1_ (mo:=mo) hx);have hrl:=HR r (nw hx);have HMI:=np (HMO i r hx);unfold maxLen at k2;clear hcell hx pV o7 kc hbd;go_wp2_with fail;clear g1
   go_loopw [20,8] (fun t v wr=>∃ k:Nat,k<=r.length/\t=.int .i64 k/\Hid (aA wo wr)/\Hid (dQ wo.heap.size wr v (cZ (r.take k)))) (fun t _ _=>r.length-(intOf t).toNat)
   case atStart=>exact ⟨0,by omega,rfl,aA.refl _,dQ.nil _ _⟩
   case round =>
    obtain ⟨k,hk,rfl,rU,HQ⟩:=hrel;obtain ⟨wi,rfl⟩:∃ wi:World,wi=wr:=⟨_,rfl⟩;by_cases yA:k<r.length
    ·obtain ⟨bx,offx,rfl,hbx,qp⟩:=HK (by intro e;simp [e] at yA);obtain ⟨x,hx⟩:∃ x,r[k]?=some x:=⟨r[k],ns yA⟩;have g1:=(HE.trans rU).cell (qp k x hx);have HTK:=np (Z0k hx);have hb:=HBD x (nw hx);have HOF:=np (j0 x wi hb.1 hb.2 (HT.ext (HE.trans rU)));clear qp hx hb;go_wp2_with fail;refine HOF.mono ?_;rintro e w1 ⟨rfl,hE1⟩;have HQ1:=np (HQ.ext hE1);have HX1:=np (aA.trans rU hE1);have HQ2:Hid (dQ wo.heap.size (w1.alloc (.cells #[.string (aB x),.string ⟨#[49]⟩] 246)) u8 (cZ (r.take k))):=HQ1.ext (aA.alloc _ _);have HU:Hid (dJ (w1.alloc (.cells #[.string (aB x),.string ⟨#[49]⟩] 246)) (.slice (some ⟨w1.heap.size,0,none⟩) 1 1) [(x:Rat)]):=by
      have:=dJ.one w1 (x:Rat) 246;rw [show ((x:Rat)).num=x from rfl,show ((x:Rat)).den=1 from rfl,iF] at this;exact this
     have hs1:wo.heap.size<=(w1.alloc (.cells #[.string (aB x),.string ⟨#[49]⟩] 246)).heap.size:=by
      have:=HX1.size;rw [World.size_alloc];omega
     have HS1:=np hs1;have HLE:Hid ((cZ (r.take k)).length+[(x:Rat)].length<1000000):=by
      unfold Hid;rw [kt,ny];simp;omega
     clear hE1 HOF g1 hs1;go_wp2_with (at_builtin;go_must (refine Y4_ _ rfl _ _ rfl wo.heap.size u8 _ (cZ (r.take k)) [(x:Rat)] rfl HQ2 rfl HU HLE HS1 ?_));intro v' w2 wH oY _;rw [<- HTK.out] at wH;have HQ3:=np wH;have HX2:Hid (aA wo w2):=Below.trans (aA.trans HX1 (aA.alloc w1 (.cells #[.string (aB x),.string ⟨#[49]⟩] 246))) oY;clear wH oY;go_wp2_with fail;go_roundw
     case rel=>exact ⟨k+1,by omega,by go_num,HX2,HQ3⟩
     case measure=>simp [intOf];omega
    ·obtain rfl:k=r.length:=(by omega);rw [List.take_length] at HQ;have HCALL:=np (HM i wi hlt (HE.trans rU));go_wp2_with fail;refine HCALL.mono ?_;rintro e w1 ⟨um,rfl,G4,hE1⟩;have HQ1:=np (HQ.ext hE1);have HX1:=np (aA.trans rU hE1);have HUM:=np G4;have HLE:Hid ((cZ r).length+(mo i).length<1000000):=by
      unfold Hid;have:=HMI.2;rw [kt];omega
     have HS1:=np HX1.size;clear hE1 HCALL G4;go_wp2_with (at_builtin;go_must (refine Y4_ _ rfl _ _ rfl wo.heap.size u8 _ (cZ r) (mo i) rfl HQ1 rfl HUM HLE HS1 ?_));intro v' w2 wH oY _;have HX2:Hid (aA wo w2):=Below.trans HX1 oY;obtain ⟨gq,cq,rfl,d1,d2,d3,d4⟩:=ei wH (by rw [oJ,kt];exact HMI.1);have HRQ:=np wH.row;obtain ⟨nq,Cs⟩:=oO ((cZ r++mo i).length);rw [<- Cs] at d3 |-;have HNQ:=np Cs;have HO2:=np (HO.ext HX2);have HV:Hid (u5.ownBlock≠some gq):=fun e=>by have:=(HO.own.lt _ e).2;omega
     have HN:Hid (gq∉tags.map (·.1)):=fun e=>by have:=(HO.fresh e).2;omega
     have HSZ:Hid (w.heap.size<=gq/\w.heap.size<=w2.heap.size):=by
      have h1:=HE.size;have h2:=HX2.size;exact ⟨by omega,by omega⟩
     have r6:Hid ((ft xss mo i).length<1000000):=(by unfold Hid;rw [nX];omega);have Ca:Hid ((cZ r++mo i).length<=cq/\cq<=9223372036854775807):=⟨by rw [<- Cs];exact d3,d4⟩;clear wH oY d1 d2 d3 d4 Cs;go_wp2_with (at_builtin;go_must (refine R5_ (K:=iq) (e:=267) underlying249 Z3l _ rfl _ _ rfl w.heap.size w.heap.size u5 tags (ft xss mo i) (gq,cq) (cZ r++mo i) #[.slice (some ⟨gq,0,none⟩) nq cq] 267 rfl HO2 (by rfl) (by rw [HNQ.out];rfl) Ca.1 Ca.2 HRQ HSZ.1 HV HN r6 HSZ.2 ?_));intro v' w5 zO hb5 _;rw [<- HSU.out] at zO;have HO5:=np zO;have HX5:=np (Below.trans (aA.trans HE HX2) hb5);clear zO hb5;go_wp2_with fail;go_roundw
     case rel=>exact ⟨i+1,_,by omega,by go_num,HX5,HO5⟩
     case measure=>simp [intOf];omega
  ·obtain rfl:i=xss.length:=(by omega);go_wp2_with fail;go_ret;exact ⟨_,tags,rfl,HO,hE⟩
theorem j0_ (i:Int) (w:World):oM 205 #[.int .i64 i] w (.slice none 0 0):=by
 go_enter func205,ntmps205
 go_wp2
 go_ret;exact ⟨rfl,rfl⟩
theorem dJ.nil (w:World):dJ w (.slice none 0 0) []:=⟨[],rfl,by simp,⟨none,0,rfl,n9 _,Nat.zero_le _,fun _=>rfl,fun h=>absurd rfl h⟩,by simp⟩
theorem p0_ (n:Nat) (w:World):Z48 205 #[] n (fun _=>[]) w:=fun i W _ _ =>
 (j0_ i W).mono fun e W' ⟨h1,h2⟩=>⟨_,h1,dJ.nil _,h2▸aA.refl _⟩
end Go.Proofs.YtoonaddcfakamaaGreatDoor
