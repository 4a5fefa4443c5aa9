import Derived.Test.YtjlkkofmojgipaaGreatDoorVAI
import Derived.Deep.CutRange
import Derived.Test.YtjlkkofmojgipaaGreatDoorVAJ
import Derived.Test.YtjlkkofmojgipaaGreatDoorVAA
import Derived.Test.YtjlkkofmojgipaaGreatDoorVAG
import Derived.Test.YtjlkkofmojgipaaGreatDoorVAE
import Derived.Test.YtjlkkofmojgipaaGreatDoorVAH
set_option linter.unusedVariables false
set_option linter.unusedSimpArgs false
set_option maxRecDepth 1000000
set_option maxHeartbeats 16000000
namespace Go.Proofs.YtjlkkofmojgipaaGreatDoor
open Go.RowKit Go.Proofs.Tryz
theorem nT:aB 1=⟨#[49]⟩:=by unfold aB Lib.itoa;rw [if_neg (by omega),show (1:Int).toNat=1 from rfl,Lib.decDigits_one (by omega)];rfl
theorem ky:aE 1=⟨#[49]⟩:=by unfold aE;rw [Lib.decDigits_one (by omega)];rfl
theorem Z2l:aB 0=⟨#[48]⟩:=by unfold aB Lib.itoa;rw [if_neg (by omega),show (0:Int).toNat=0 from rfl,Lib.decDigits_one (by omega)];rfl
theorem w8_:bR 1=.agg #[.string ⟨#[49]⟩,.string ⟨#[49]⟩]:=by
 show Value.agg #[.string (aB 1),.string (aE 1)]=_;rw [nT,ky]
theorem Z32:bR 0=.agg #[.string ⟨#[48]⟩,.string ⟨#[49]⟩]:=by
 show Value.agg #[.string (aB 0),.string (aE 1)]=_;rw [Z2l,ky]
theorem Z02 (w:World):oX 159 #[] w (bR 1):=by
 rw [w8_]
 go_enter func159,ntmps159
 go_wp2
 refine bodyPost_ret (results_cell_row (by rfl) _ _ w.heap.size 152 #[.string ⟨#[49]⟩,.string ⟨#[49]⟩] (0,0) _ (by rfl) (heap_alloc_new _ _) underlying152 (by rfl) (by kernel_rfl)) (by rfl) ⟨rfl,aA.alloc _ _⟩
theorem Z3w (w:World):oX 161 #[] w (bR 0):=by
 rw [Z32]
 go_enter func161,ntmps161
 go_wp2
 refine bodyPost_ret (results_cell_row (by rfl) _ _ w.heap.size 152 #[.string ⟨#[48]⟩,.string ⟨#[49]⟩] (0,0) _ (by rfl) (heap_alloc_new _ _) underlying152 (by rfl) (by kernel_rfl)) (by rfl) ⟨rfl,aA.alloc _ _⟩
theorem T7_ {S S':Nat->Prop} {w w1 w2:World} (h:aG S w w1) (g:aG S' w1 w2) (hS:∀ b,S' b->w.heap.size<=b\/S b):aG S w w2 :=
 ⟨g.os.trans h.os,g.tape.trans h.tape,g.output.trans h.output,oJ h.size g.size,fun k hk hn=>(g.block k (oI hk h.size) (fun hs=>by
  rcases hS k hs with h1 | h1;·omega
  ·exact hn h1)).trans (h.block k hk hn)⟩
def cS (w:World) (D:Nat) (q:Rat):Prop:=w.heap[D]?=some (.cells #[.string (aB q.num),.string (aE q.den)] 152 (0,0))
theorem cS.ext {w w':World} {D:Nat} {q:Rat} (h:cS w D q) (he:aA w w'):cS w' D q:=aJ h he
theorem cS.grown {w w':World} {S:Nat->Prop} {D:Nat} {q:Rat} (h:cS w D q) (hg:aG S w w') (hS:¬ S D):cS w' D q:=(hg.block D (dr h) hS).trans h
theorem cS.cells {w:World} {D:Nat} {q:Rat} (h:cS w D q):w.cell? ⟨D,0,none⟩=some (.string (aB q.num))/\w.cell? ⟨D,1,none⟩=some (.string (aE q.den))/\w.frozen? ⟨D,0,none⟩=false/\w.frozen? ⟨D,1,none⟩=false:=by
 obtain ⟨a,b,c⟩:=dS h;exact ⟨a,b,c 0,c 1⟩
theorem cS.set {w:World} {D:Nat} {q:Rat} (h:cS w D q) (r:Rat):cS ((w.setCell ⟨D,0,none⟩ (.string (aB r.num))).setCell ⟨D,1,none⟩ (.string (aE r.den))) D r:=kT h
def cL (B:Nat) (w:World) (v:Value) (l:List Nat):Prop:=w.ownsRow B 3 1 v l.length (l.map fun c:Nat=>Value.int .i64 (c:Int))
theorem cL.nil (B:Nat) (w:World):cL B w (.slice none 0 0) []:=World.ownsRow_nil w B 3 1
theorem cL.ext {B:Nat} {w w':World} {v:Value} {l:List Nat} (h:cL B w v l) (he:aA w w'):cL B w' v l:=fN h he
theorem cL.lt {B:Nat} {w:World} {v:Value} {l:List Nat} (h:cL B w v l):∀ b,v.ownBlock=some b->B<=b/\b<w.heap.size:=World.ownsRow.lt h
theorem cL.form {B:Nat} {w:World} {v:Value} {l:List Nat} (h:cL B w v l):∃ a cap,v=.slice a l.length cap/\l.length<=cap/\cap<=9223372036854775807:=by
 rcases h.2 with ⟨rfl,hn⟩ | ⟨g,cap,cur,rfl,hb,hg,h1,h2,h3,h4⟩
 ·exact ⟨none,0,by rw [hn],by omega,by omega⟩
 ·exact ⟨_,cap,rfl,h1,h2⟩
theorem cL.grown {S:Nat->Prop} {B:Nat} {w w':World} {v:Value} {l:List Nat} (h:cL B w v l) (hg:aG S w w') (hS:∀ b,S b->b<B):cL B w' v l:=by
 refine ⟨h.1,?_⟩;rcases h.2 with h' | ⟨g,cap,cur,rfl,hb,sM,rest⟩
 ·exact .inl h'
 ·exact .inr ⟨g,cap,cur,rfl,hb,(hg.block g (Array.getElem?_eq_some_iff.1 sM).1 (fun hs=>by have:=hS g hs;omega)).trans sM,rest⟩
def nS (_:World) (u:List Value) (x:Nat):Prop:=u=[.int .i64 (x:Int)]
theorem cL.build {B:Nat} {w:World} {v:Value} {l:List Nat} (h:cL B w v l):aU w B 3 1 v nS l:=by
 refine ⟨l.map fun x:Nat=>[Value.int .i64 (x:Int)],by simp,by simp,?_,?_⟩;·rw [di];exact h
 ·intro j u x hu hx w' _;simp only [oF,hx,Option.map_some,Option.some.injEq] at hu;exact hu.symm
theorem aU.ownI {B:Nat} {w:World} {v:Value} {l:List Nat} (h:aU w B 3 1 v nS l):cL B w v l:=by
 obtain ⟨us,h1,h2,h3,h4⟩:=h;have:us=l.map fun x:Nat=>[Value.int .i64 (x:Int)]:=by
  apply List.ext_getElem?;intro i;rw [oF];by_cases hi:i<l.length
  ·have pg:i<us.length:=(by omega);have:=(h4 i us[i] l[i] (by simp [pg]) (by simp [hi])).now;simp only [nS] at this;simp [hi,pg,this]
  ·rw [oL (by omega),oL (by omega)];rfl
 rw [this,di] at h3;exact h3
theorem S3_ (x:Rat):(x.num.sign == 0)=decide (x=0):=by
 rw [Bool.eq_iff_iff,beq_iff_eq,decide_eq_true_iff,Int.sign_eq_zero_iff_zero,Rat.num_eq_zero]
structure cH (w0 wr:World) (g0 D:Nat) (om:List (Nat×Nat)) (m1:List (List Rat)) (d1:Rat) (v:Value) (ld:List Nat) (tags:List (Nat×Nat)):Prop where
 mat:cU wr g0 tags m1
 box:cS wr D d1
 lead:cL (D+1) wr v ld
 same:∀ b,bV g0 tags b↔bV g0 om b
 grown:aG (bV g0 om) w0 wr
 size:D<wr.heap.size
theorem cH.ext {w0 wr w':World} {g0 D:Nat} {om:List (Nat×Nat)} {m1:List (List Rat)} {d1:Rat} {v:Value} {ld:List Nat} {tags:List (Nat×Nat)} (h:cH w0 wr g0 D om m1 d1 v ld tags) (he:aA wr w'):cH w0 w' g0 D om m1 d1 v ld tags :=
 ⟨h.mat.ext he,h.box.ext he,h.lead.ext he,h.same,h.grown.trans (he.grownS _),oI h.size he.size⟩
theorem cH.setBox {w0 wr:World} {g0 D:Nat} {om:List (Nat×Nat)} {m1:List (List Rat)} {d1:Rat} {v:Value} {ld:List Nat} {tags:List (Nat×Nat)} (h:cH w0 wr g0 D om m1 d1 v ld tags) (hb:∀ b,bV g0 tags b->b<D) (hD:w0.heap.size<=D) (q:Rat) :
  cH w0 ((wr.setCell ⟨D,0,none⟩ (.string (aB q.num))).setCell ⟨D,1,none⟩ (.string (aE q.den))) g0 D om m1 q v ld tags:=by
 have hgr:aG (·=D) wr ((wr.setCell ⟨D,0,none⟩ (.string (aB q.num))).setCell ⟨D,1,none⟩ (.string (aE q.den))):=((aG.refl (·=D) wr).store (S:=(·=D)) rfl _ _).store (S:=(·=D)) rfl _ _;exact ⟨h.mat.grown hgr (fun b qY e=>by have:=hb b qY;omega),h.box.set q,h.lead.grown hgr (fun b e=>by omega),h.same,T7_ h.grown hgr (fun b e=>.inl (by omega)),by rw [db,db];exact h.size⟩
structure me (w0 wr:World) (g0 D:Nat) (om:List (Nat×Nat)) (m0:List (List Rat)) (c:Nat) (v:Value) (tags:List (Nat×Nat)):Prop where
 mat:cU wr g0 tags (ai m0 c).m
 box:cS wr D (ai m0 c).det
 lead:cL (D+1) wr v (ai m0 c).lead
 same:∀ b,bV g0 tags b↔bV g0 om b
 grown:aG (bV g0 om) w0 wr
 size:D<wr.heap.size
theorem me.mid {w0 wr:World} {g0 D:Nat} {om:List (Nat×Nat)} {m0:List (List Rat)} {c:Nat} {v:Value} {tags:List (Nat×Nat)} (h:me w0 wr g0 D om m0 c v tags):cH w0 wr g0 D om (ai m0 c).m (ai m0 c).det v (ai m0 c).lead tags :=
 ⟨h.mat,h.box,h.lead,h.same,h.grown,h.size⟩
theorem cH.redOf {w0 wr:World} {g0 D:Nat} {om:List (Nat×Nat)} {m0 m1:List (List Rat)} {d1:Rat} {c:Nat} {v:Value} {ld:List Nat} {tags:List (Nat×Nat)} (h:cH w0 wr g0 D om m1 d1 v ld tags) (e:ai m0 c=⟨m1,ld,d1⟩):me w0 wr g0 D om m0 c v tags :=
 ⟨by rw [e];exact h.mat,by rw [e];exact h.box,by rw [e];exact h.lead,h.same,h.grown,h.size⟩
theorem cL.low {B B':Nat} {w:World} {v:Value} {l:List Nat} (h:cL B w v l) (hb:B'<=B):cL B' w v l:=by
 refine ⟨h.1,?_⟩;rcases h.2 with h' | ⟨g,cap,cur,rfl,hg,rest⟩
 ·exact .inl h'
 ·exact .inr ⟨g,cap,cur,rfl,oJ hb hg,rest⟩
theorem Z1h {c:Nat} {m:List (List Rat)} {ld:List Nat} {d:Rat} (h:fF m c (m.length-ld.length) ld.length=m.length):bC c ⟨m,ld,d⟩=⟨m,ld,0⟩:=by
 unfold bC;exact if_pos h
theorem Z1i {c a:Nat} {m m1:List (List Rat)} {ld:List Nat} {d d1 f:Rat} {r:List Rat} (h:fF m c (m.length-ld.length) ld.length=a) (ha:a≠m.length) (hm:m1=if a=ld.length then m else bE m ld.length a) (hd:d1=if a=ld.length then d else -d) (hr:r=cC m1 ld.length) (hf:f=aF m1 ld.length c) :
  bC c ⟨m,ld,d⟩=⟨dL (m1.set ld.length (dE r f)) (dE r f) c ld.length (m1.set ld.length (dE r f)).length,ld++[c],d1*f⟩:=by
 subst h hf hr hm hd;unfold bC;exact if_neg ha
theorem Z1X {m:List (List Rat)} {k a c:Nat} (hk:k<m.length) (ha:a<m.length):aF (if a=k then m else bE m k a) k c=aF m a c:=by
 by_cases e:a=k;·rw [if_pos e,e]
 ·rw [if_neg e];unfold aF;rw [nu (m:=bE m k a) (i:=k) (r:=cC m a)];rw [fO (gi hk) (gi ha),if_neg (fun x=>e x.symm),if_pos rfl]
theorem X5_ {P:Program} {fn:Func} {p s:Tmp} {ty:TypeId} (h:fn.results=#[.tmp s,.cell p ty]) (tmps:Array Value) (w:World) (g:Nat) (t:TypeId) (cs:Array Value) (fr:Nat×Nat) (d:TypeDesc) (v:Value)
  (hp:tmps.getD p undef=.pointer (some ⟨g,0,none⟩)) (hs:tmps.getD s undef=v) (hg:w.heap[g]?=some (.cells cs t fr))
  (hu:P.underlying ty=some d) (hd:(match d with | .struct _ | .array _ _=>true | _=>false)=true) (hi:(P.info? ty).map (·.size)=some cs.size) :
  (results fn tmps).run P w=.ok (.tuple #[v,.agg cs]) w:=by
 have rZ:tmps[p]?.getD undef=.pointer (some ⟨g,0,none⟩):=by simpa using hp
 have sE:tmps[s]?.getD undef=v:=by simpa using hs
 simp [results,h,rZ,sE,asAddr,run_loadVar_row w g t ty cs fr d hg hu hd hi]
theorem nx {α:Type} {l:List α} {i:Nat} {a:α} (h:l[i]?=some a):l.set i a=l:=by
 apply List.ext_getElem?;intro j;rw [oW];by_cases e:i=j
 ·subst e;rw [if_pos rfl,if_pos (oC.1 h).1,h]
 ·rw [if_neg e]
theorem v4_ {α:Type} {l:List α} {i:Nat} {a b:α} (h:l[i]?=some a):(l.set i b)[i]?=some b:=by
 rw [oW,if_pos rfl,if_pos (oC.1 h).1]
theorem cH.setEl {w0 wr:World} {g0 D:Nat} {om:List (Nat×Nat)} {m:List (List Rat)} {d:Rat} {v:Value} {ld:List Nat} {tags:List (Nat×Nat)} (h:cH w0 wr g0 D om m d v ld tags) (hb:∀ b,bV g0 tags b->b<D)
  {i j:Nat} {t:Nat×Nat} {r:List Rat} (ht:tags[i]?=some t) (hr:m[i]?=some r) (hj:j<r.length) (q:Rat) :
  cH w0 ((wr.setCell ⟨t.1,j*2,none⟩ (.string (aB q.num))).setCell ⟨t.1,j*2+1,none⟩ (.string (aE q.den))) g0 D om (m.set i (r.set j q)) d v ld tags /\
   ∀ F x,cS wr F x->D<=F->cS ((wr.setCell ⟨t.1,j*2,none⟩ (.string (aB q.num))).setCell ⟨t.1,j*2+1,none⟩ (.string (aE q.den))) F x:=by
 have hgr:aG (·=t.1) wr ((wr.setCell ⟨t.1,j*2,none⟩ (.string (aB q.num))).setCell ⟨t.1,j*2+1,none⟩ (.string (aE q.den))):=((aG.refl (·=t.1) wr).store (S:=(·=t.1)) rfl _ _).store (S:=(·=t.1)) rfl _ _;obtain ⟨t',rO,-,-,-,hR,hne,hbq⟩:=h.mat.get hr;obtain rfl:t'=t:=oM (rO.symm.trans ht);have hlt:=hb _ hbq
 exact ⟨⟨h.mat.setRow ht hr (by rw [List.length_set]) hgr (hR.set j hj q),h.box.grown hgr (fun e=>by omega),h.lead.grown hgr (fun b e=>by omega),h.same,h.grown.trans (hgr.weak fun b _ e=>by rw [e];exact (h.same _).1 hbq),by rw [db,db];exact h.size⟩,
  fun F x hF hDF=>hF.grown hgr (fun e=>by omega)⟩
theorem cH.push {w0 wr w':World} {g0 D:Nat} {om:List (Nat×Nat)} {m:List (List Rat)} {d:Rat} {v v':Value} {ld ld':List Nat} {tags:List (Nat×Nat)} (h:cH w0 wr g0 D om m d v ld tags) (hb:∀ b,bV g0 tags b->b<D) (hD:w0.heap.size<=D)
  (hB:Below (D+1) wr w') (hv:cL (D+1) w' v' ld'):cH w0 w' g0 D om m d v' ld' tags:=by
 have hgr:aG (fun b=>D+1<=b) wr w':=⟨hB.os,hB.tape,hB.output,hB.size,fun k hk hn=>hB.block k (by omega)⟩;exact ⟨h.mat.grown hgr (fun b qY e=>by have:=hb b qY;omega),h.box.grown hgr (fun e=>by omega),hv,h.same,T7_ h.grown hgr (fun b e=>.inl (by omega)),oI h.size hB.size⟩
theorem Z1a (m0:List (List Rat)) (g0 cap0 n C:Nat) (om:List (Nat×Nat)) (wb w:World) (hM:cU w g0 om m0) (hC:bY C m0) (hn:n<=C) (Bf:C<=1000) (hl:m0.length<=1000) (pk:m0.length<=cap0) (pN:cap0<=9223372036854775807)
  (hok:∀ c,c<n->gV 2500 (ai m0 c).m/\RS 9000 (ai m0 c).det) (tU:aA wb w) (ht:ae wb) (ry:∀ b,bV g0 om b->wb.heap.size<=b) :
  Calls prog 109 #[.slice (some ⟨g0,0,none⟩) m0.length cap0,.int .i64 n] w fun e w'=>∃ v tags,e=.returned (.tuple #[v,bR (ai m0 n).det])/\cL w.heap.size w' v (ai m0 n).lead/\cU w' g0 tags (ai m0 n).m/\(∀ b,bV g0 tags b↔bV g0 om b)/\aG (bV g0 om) w w':=by
 have HM:=oA hM;have HC:=oA hC;have HOK:=oA hok;have HWB:=oA tU;have HT:=oA ht;have HBL:=oA ry;have HSH:=oA (lE hC);obtain ⟨L,hL⟩:=oc m0.length;rw [<- hL] at hl pk HSH |-;have HL:=oA hL;obtain ⟨W1,qm,hE1,hs1,hb1⟩:=dU w (.string ⟨#[]⟩) (.string ⟨#[]⟩) 152;have HE1:=oA hE1;have HB1:Hid (∀ W,aA W1 W->af w.heap.size W):=fun W hW=>af.ext ⟨_,_,hb1⟩ hW;have HS1:=oA hs1;have HBW:Hid (∀ b,bV g0 om b->b<w.heap.size):=fun b hb=>hM.blt hb;obtain ⟨r0,r1,rf⟩:=dS hb1;clear hM hC hok tU ht ry hL hE1 hs1 hb1 rf
 go_enter func109,ntmps109
 go_wp2_with fail;refine (Z02 _).mono ?_;rintro e w2 ⟨rfl,hE2⟩;have HE2:=oA hE2;obtain ⟨q0,q1,t0,t1,f0,f1⟩:=(HB1 _ hE2).open;have hbx:=(HB1 _ hE2);rw [w8_];have yY:Hid (me w ((w2.setCell ⟨w.heap.size,0,none⟩ (.string ⟨#[49]⟩)).setCell ⟨w.heap.size,1,none⟩ (.string ⟨#[49]⟩)) g0 w.heap.size om m0 0 (.slice none 0 0) om):=by
  have hgr:aG (·=w.heap.size) w2 ((w2.setCell ⟨w.heap.size,0,none⟩ (.string ⟨#[49]⟩)).setCell ⟨w.heap.size,1,none⟩ (.string ⟨#[49]⟩)):=((aG.refl (·=w.heap.size) w2).store (S:=(·=w.heap.size)) rfl _ _).store (S:=(·=w.heap.size)) rfl _ _;refine ⟨(HM.ext (HE1.trans hE2)).grown hgr (fun b hb e=>by have:=HBW b hb;omega),?_,cL.nil _ _,fun b=>Iff.rfl,?_,?_⟩
  ·have:=hbx.res (x:=.string ⟨#[49]⟩) (y:=.string ⟨#[49]⟩);unfold cS;rw [this];show some (Obj.cells #[.string ⟨#[49]⟩,.string ⟨#[49]⟩] 152 (0,0))=some (Obj.cells #[.string (aB 1),.string (aE 1)] 152 (0,0));rw [nT,ky]
  ·exact T7_ ((HE1.trans hE2).grownS _) hgr (fun b hb=>.inl (by omega))
  ·rw [db,db];have:=hE2.size;have:=HS1.out;omega
 clear hE2 hbx r0 r1;go_wp2_with fail;clear q0 q1 t0 t1 f0 f1
 go_loopw [16,4] (fun t v wr=>∃ (c:Nat) (tags:List (Nat×Nat)),c<=n/\t=.int .i64 c/\Hid (me w wr g0 w.heap.size om m0 c v tags)) (fun t _ _=>n-(intOf t).toNat)
 case atStart=>exact ⟨0,om,by omega,rfl,yY⟩
 case round =>
  obtain ⟨c,tags,hc,rfl,HR⟩:=hrel;obtain ⟨wo,rfl⟩:∃ wo:World,wo=wr:=⟨_,rfl⟩;clear yY HE2;have HP:=oA (HR.grown);have Jp:Hid (aA wb wo):=Below.trans HWB (HR.grown.belowE (B:=wb.heap.size) HBL HWB.size);obtain ⟨av,cv,hv,hv1,tx⟩:=HR.lead.form;obtain ⟨k,hk⟩:=oc ((ai m0 c).lead.length);rw [<- hk] at hv hv1;have HK:=oA hk;have D3:k<=L:=by rw [hk];exact (HSH c).2.2
  subst hv;clear hk;by_cases hlt:c<n
  ·obtain ⟨hA,hD⟩:=HOK c hlt;have HA:=oA hA;have HD:=oA hD;obtain ⟨m,hm⟩:=oc ((ai m0 c).m);obtain ⟨d,hd⟩:=oc ((ai m0 c).det);obtain ⟨ld,qw⟩:=oc ((ai m0 c).lead);have HMM:=HR.mat;have HBB:=HR.box;have HLD:=HR.lead;rw [<- hm] at HMM HA;rw [<- hd] at HBB HD;rw [<- qw] at HLD HK;have HMM:=oA HMM;have HBB:=oA HBB;have HLD:=oA HLD;have qt:Hid (bY C m/\m.length=L):=(by unfold Hid;rw [hm];exact ⟨(HSH c).1,(HSH c).2.1⟩);have HST:Hid (ai m0 (c+1)=bC c ⟨m,ld,d⟩):=(by unfold Hid;rw [hm,hd,qw];rfl);have HSAME:=oA HR.same;have HDS:=oA HR.size;have HBG:Hid (∀ b,bV g0 tags b->b<w.heap.size):=fun b hb=>HBW b ((HR.same b).1 hb);clear hm hd qw hA hD HR;go_wp2_with fail
   go_loopw [7] (fun t wr=>∃ a:Nat,t=.int .i64 a/\k<=a/\a<=L/\Hid (∀ j,k<=j->j<a->aF m j c=0)/\Hid (aA wo wr)) (fun t _=>L-(intOf t).toNat)
   case atStart=>exact ⟨k,rfl,by omega,D3,(fun j h1 h2=>by omega),aA.refl _⟩
   case round =>
    obtain ⟨a,rfl,BU,ze,HZ,HE⟩:=hrel;obtain ⟨wi,rfl⟩:∃ wi:World,wi=wr:=⟨_,rfl⟩;by_cases pT:a<L
    ·have hr:m[a]?=some (cC m a):=gi (by have:=qt.2;omega);obtain ⟨t,ht,c1,h1,h2,hrow,hne,hbq⟩:=HMM.get hr;have hrl:=qt.1.get hr;have hcl:c<(cC m a).length:=(by omega);have hx:(cC m a)[c]?=some (aF m a c):=(by rw [y1_ (oB hcl)];exact oB hcl);have g1:=HE.cell c1;have g2:=HE.cell (hrow.num c _ hx);have g3:=HE.cell (hrow.den c _ hx);have HRL:=oA hrl;rw [hrl] at g1 h1;have Im:c<C:=(by omega);have HSG:Hid (∀ W,oX 160 #[.agg #[.string (aB (aF m a c).num),.string (aE (aF m a c).den)]] W (.int .i64 (aF m a c).num.sign)):=fun W=>U4_ (aF m a c) W;have hsz:=S3_ (aF m a c);clear hr ht c1 hrow hne hbq hrl hcl hx;by_cases pG:aF m a c=0
     ·have HZ2:Hid (∀ j,k<=j->j<a+1->aF m j c=0):=fun j h1 h2=>by
       by_cases e:j=a;·rw [e];exact pG
       ·exact HZ j h1 (by omega)
      rw [oT pG] at hsz;obtain ⟨sg,hsg⟩:=oc ((aF m a c).num.sign);rw [<- hsg] at HSG hsz;clear pG hsg;go_wp2_with fail;refine p_ (HSG _) (aA.trans HE) ?_;intro w3 HE3;clear HSG g1 g2 g3;go_wp2_with fail;go_roundw
      case rel=>exact ⟨a+1,by go_num,by omega,by omega,HZ2,HE3⟩
      case measure=>simp [intOf];omega
     ·rw [oS pG] at hsz;obtain ⟨sg,hsg⟩:=oc ((aF m a c).num.sign);rw [<- hsg] at HSG hsz;have HX0:=oA pG;clear pG hsg;have yt:¬ a=L:=(by omega);go_wp2_with fail;refine p_ (HSG _) (aA.trans HE) ?_;intro w3 HE3;clear HSG g1 g2 g3 HE;have HMID:Hid (cH w w3 g0 w.heap.size om m d (.slice av k cv) ld tags) :=
       ⟨HMM.ext HE3,HBB.ext HE3,HLD.ext HE3,HSAME,HP.trans (HE3.grownS _),oI HDS HE3.size⟩
      have LJ:((a:Int) == (L:Int))=false:=(by rw [beq_eq_false_iff_ne];omega);obtain ⟨bak,sZ⟩:=oZ (((a:Int) != (k:Int)))
      have A0:Hid (a≠k->∀ W,aA w3 W->∃ s t,tags[k]?=some s/\tags[a]?=some t/\W.cell? ⟨g0,k,none⟩=some (.slice (some ⟨s.1,0,none⟩) C s.2)/\W.cell? ⟨g0,a,none⟩=some (.slice (some ⟨t.1,0,none⟩) C t.2)/\W.frozen? ⟨g0,k,none⟩=false/\W.frozen? ⟨g0,a,none⟩=false/\C<=s.2/\C<=t.2/\s.2<=9223372036854775807/\t.2<=9223372036854775807 /\
        cH w ((W.setCell ⟨g0,k,none⟩ (.slice (some ⟨t.1,0,none⟩) C t.2)).setCell ⟨g0,a,none⟩ (.slice (some ⟨s.1,0,none⟩) C s.2)) g0 w.heap.size om (bE m k a) d (.slice av k cv) ld (bE tags k a)/\(∀ b,bV g0 (bE tags k a) b->b<w.heap.size)):=by
       intro hne W hW;have hmid:=HMID.ext hW;have hk2:m[k]?=some (cC m k):=gi (by have:=qt.2;omega);have ha2:m[a]?=some (cC m a):=gi (by have:=qt.2;omega);obtain ⟨s,hs,c1,h1,h2,-⟩:=hmid.mat.get hk2;obtain ⟨t,ht,c3,h3,h4,-⟩:=hmid.mat.get ha2;have e1:=qt.1.get hk2;have e2:=qt.1.get ha2;have hsw:=hmid.mat.swap hs ht hk2 ha2;rw [e1] at c1 h1 hsw;rw [e2] at c3 h3 hsw;have hgr:aG (·=g0) W ((W.setCell ⟨g0,k,none⟩ (.slice (some ⟨t.1,0,none⟩) C t.2)).setCell ⟨g0,a,none⟩ (.slice (some ⟨s.1,0,none⟩) C s.2)):=((aG.refl (·=g0) W).store (S:=(·=g0)) rfl _ _).store (S:=(·=g0)) rfl _ _;have yS:bV g0 om g0:=List.mem_cons_self ..;have hgl:=HBW g0 yS;refine ⟨s,t,hs,ht,c1,c3,hmid.mat.free k,hmid.mat.free a,h1,h3,h2,h4,⟨hsw,hmid.box.grown hgr (fun e=>by omega),hmid.lead.grown hgr (fun b e=>by omega),fun b=>(V5_ hs ht).trans (hmid.same b),hmid.grown.trans (hgr.weak fun b _ e=>by rw [e];exact yS),by rw [db,db];exact hmid.size⟩,fun b hb=>HBW b ((hmid.same b).1 ((V5_ hs ht).1 hb))⟩
      have HBK:=oA sZ
      go_upto_if 47 with (fail)
      go_cut [] from 48 to 63 (fun wx=>Hid (∃ o4,cH w wx g0 w.heap.size om (if a=k then m else bE m k a) (if a=k then d else -d) (.slice av k cv) ld o4))
      case first =>
       by_cases rQ:a=k
       ·have hb:bak=false:=(by rw [<- HBK.out,rQ];simp);have HF:Hid (∃ o4,cH w w3 g0 w.heap.size om (if a=k then m else bE m k a) (if a=k then d else -d) (.slice av k cv) ld o4):=by
         rw [if_pos rQ,if_pos rQ];exact ⟨tags,HMID⟩
        clear HBK sZ rQ A0;subst hb;go_wp2_with fail;go_meet;exact HF
       ·have hb:bak=true:=(by rw [<- HBK.out];simp;omega);have FB:¬ k=a:=fun e=>rQ e.symm;obtain ⟨s,t,hs,ht,c1,c3,f1,f3,h1,h3,h2,h4,hmid,Ag⟩:=A0 rQ w3 (aA.refl _);have HM3:=oA (hmid.ext (aA.drew _));have HBK2:=oA Ag;obtain ⟨b0,b1,b2,b3⟩:=HM3.box.cells;have DW:Hid (∀ W,oX 162 #[.agg #[.string (aB d.num),.string (aE d.den)]] W (.agg #[.string (aB (-d).num),.string (aE (-d).den)])):=fun W=>B6_ d W (HD.mono (by omega));clear hmid Ag;have kL:k<L:=by omega
        clear HBK sZ;subst hb;go_wp2_with fail
        go_region
        all_goals
         go_wp2_with fail;refine (DW _).mono ?_;rintro e w5 ⟨rfl,o5⟩;have HM5:=oA (HM3.ext o5);obtain ⟨d0,d1,d2,d3⟩:=HM5.box.cells;have HF:=oA (HM5.setBox HBK2 (oK _) (-d));clear o5 DW b0 b1 b2 b3;go_wp2_with fail;go_meet;rw [if_neg rQ,if_neg rQ];exact ⟨_,HF⟩
      case rest =>
       have HHC:=oA hcut;obtain ⟨o4,re⟩:=HHC.out.out;clear hcut HHC HBK HMID A0 HE3;obtain ⟨m1,hm1⟩:∃ m1,m1=if a=k then m else bE m k a:=⟨_,rfl⟩
       obtain ⟨d1,qx⟩:∃ d1,d1=if a=k then d else -d:=⟨_,rfl⟩
       rw [<- hm1,<- qx] at re;have HM1:=oA re;have qc:Hid (bY C m1/\m1.length=L):=by
        unfold Hid;rw [hm1];split;·exact qt
        ·exact ⟨qt.1.swp _ _,by rw [h_];exact qt.2⟩
       have HA1:Hid (gV 2500 m1):=by
        unfold Hid;rw [hm1];split;·exact HA
        ·exact HA.swp _ _
       have HD1:Hid (RS 9001 d1):=by
        unfold Hid;rw [qx];split;·exact HD.mono (by omega)
        ·exact Z6n HD
       have IV:k<m.length:=(by rw [qt.out.2];omega);have Iq:a<m.length:=(by rw [qt.out.2];omega);obtain ⟨f,hf⟩:=oc (aF m1 k c);obtain ⟨r,hr⟩:=oc (cC m1 k);have Br:Hid (f≠0):=(by unfold Hid;rw [hf,hm1,Z1X IV Iq];exact HX0);have HRK:Hid (m1[k]?=some r/\r.length=C/\r[c]?=some f):=by
        have h1:m1[k]?=some r:=(by rw [hr];exact gi (by rw [qc.out.2];omega));have h2:=qc.1.get h1;refine ⟨h1,h2,?_⟩;have hcl:c<r.length:=(by omega);rw [hf,y1_ (x:=r[c]) (by rw [<- hr];exact oB hcl)];exact oB hcl
       have HNX:Hid (ai m0 (c+1)=⟨dL (m1.set k (dE r f)) (dE r f) c k L,ld++[c],d1*f⟩):=by
        unfold Hid;have hkl:=HK.out;rw [HST.out,Z1i (a:=a) (m1:=m1) (d1:=d1) (r:=r) (f:=f) ?_ ?_ ?_ ?_ ?_ ?_,List.length_set,<- hkl,qc.out.2]
        ·rw [qt.out.2,<- hkl];exact y3_ m c _ k a BU (by omega) HZ (fun _=>HX0)
        ·rw [qt.out.2];exact yt
        ·rw [<- hkl];exact hm1
        ·rw [<- hkl];exact qx
        ·rw [<- hkl];exact hr
        ·rw [<- hkl];exact hf
       have AW:k<L:=(by omega);have Im:c<C:=(by omega);clear re hm1 qx hf hr IV Iq HMM HBB HLD HA HD qt HST HX0 HZ hsz HDS HOK BU pT ze yt LJ sZ;have Jo:Hid (aA wb wc):=Below.trans HWB (HM1.grown.belowE (B:=wb.heap.size) HBL HWB.size);have vK:Hid (∀ b,bV g0 o4 b->b<w.heap.size):=fun b hb=>HBW b ((HM1.same b).1 hb);obtain ⟨dd,yT⟩:=oc (d1*f);rw [<- yT] at HNX;have vI:Hid (∀ W,aA wc W->oX 163 #[.agg #[.string (aB d1.num),.string (aE d1.den)],.agg #[.string (aB f.num),.string (aE f.den)]] W (.agg #[.string (aB dd.num),.string (aE dd.den)])):=fun W hW=>by
        rw [yT];exact B5_ d1 f W (HD1.mono (by omega)) ((HA1.get HRK.1 HRK.2.2).mono (by omega)) (HT.ext (Jo.trans hW))
       obtain ⟨t,ht,c1,h1,h2,hrow,hne,hbq⟩:=HM1.mat.get HRK.1;rw [HRK.out.2.1] at c1 h1;have g2:=hrow.num c f HRK.2.2;have g3:=hrow.den c f HRK.2.2;have xy:Hid (o4[k]?=some t):=ht;obtain ⟨W4,C1,hE4,hs4,hb4⟩:=dU wc (.string (aB f.num)) (.string (aE f.den)) 152;have HE4:=oA hE4;have hDF:=HM1.size;have HB4:Hid (∀ W,aA W4 W->cS W wc.heap.size f):=fun W hW=>aJ hb4 hW;obtain ⟨e0,e1,e2,e3⟩:=(HB4 W4 (aA.refl _)).cells;obtain ⟨b0,b1,b2,b3⟩:=(HM1.ext hE4).box.cells;clear ht hrow hne hbq hE4 hs4 hb4 yT
       go_upto_region 15 with (fail)
       obtain ⟨wq,rfl⟩:∃ wq:World,wq=wc:=⟨_,rfl⟩
       go_cut [] from 71 to 73 (fun wx=>Hid (cH w wx g0 w.heap.size om m1 dd (.slice av k cv) ld o4)/\Hid (cS wx wq.heap.size f))
       case first =>
        clear c1 g2 g3;go_wp2_with fail;refine (vI _ HE4).mono ?_;rintro e w5 ⟨rfl,o5⟩;have HM5:=oA (HM1.ext (HE4.trans o5));have HBF:=HB4 _ o5;have HF:=oA (HM5.setBox vK (oK _) dd);have HG:=oA (HBF.grown (S:=(·=w.heap.size)) (((aG.refl (·=w.heap.size) w5).store (S:=(·=w.heap.size)) rfl 0 (.string (aB dd.num))).store (S:=(·=w.heap.size)) rfl 1 (.string (aE dd.den))) (by omega));clear b0 b1 b2 b3 e0 e1 e2 e3 HBF o5;obtain ⟨b0,b1,b2,b3⟩:=HM5.box.cells;go_wp2_with fail;go_meet;exact ⟨HF,HG⟩
       case rest =>
       obtain ⟨HM6,Dn⟩:=hcut;have GM:w.heap.size<=wq.heap.size:=(by omega);clear HM1 HE4 HB4 vI c1 g2 g3 b0 b1 b2 b3 e0 e1 e2 e3 C1 Jo;obtain ⟨t',rO,c1,-,-,-⟩:=HM6.mat.get HRK.1;obtain rfl:t=t':=oM (xy.symm.trans rO);rw [HRK.out.2.1] at c1;clear rO;go_wp2_with fail;clear c1
       go_loopw [79] (fun tv wr=>∃ j:Nat,tv=.int .i64 j/\j<=C/\Hid (cH w wr g0 w.heap.size om (m1.set k (cn (dE r f) r j)) dd (.slice av k cv) ld o4)/\Hid (cS wr wq.heap.size f)) (fun tv _=>C-(intOf tv).toNat)
       case atStart=>exact ⟨0,rfl,by omega,by unfold Hid;rw [P7_,nx HRK.out.1];exact HM6,Dn⟩
       case round =>
        obtain ⟨j,rfl,Kr,qK,Bt⟩:=hrel;obtain ⟨wj,rfl⟩:∃ wj:World,wj=wr:=⟨_,rfl⟩;clear HM6 Dn;have BK:Hid ((dE r f).length=r.length):=W7_ r f;by_cases hj:j<C
        ·have hrl:=HRK.2.1;obtain ⟨x,hx⟩:∃ x,r[j]?=some x:=⟨_,oB (by omega)⟩;have hP:(m1.set k (cn (dE r f) r j))[k]?=some (cn (dE r f) r j):=v4_ HRK.1;have wV:(cn (dE r f) r j).length=C:=(by rw [H1_ _ _ _ BK.out];exact HRK.2.1);have hPx:=H0_ BK (oK j) hx;obtain ⟨t',rO,c1,-,-,hrow,-⟩:=qK.mat.get hP;obtain rfl:t=t':=oM (xy.symm.trans rO);rw [wV] at c1;have g2:=hrow.num j x hPx;have g3:=hrow.den j x hPx;obtain ⟨e0,e1,-,-⟩:=Bt.cells;obtain ⟨q,hq⟩:=oc (x / f);have Bs:Hid (aA wb wj):=Below.trans HWB (qK.grown.belowE (B:=wb.heap.size) HBL HWB.size);have Hk:Hid (∀ W,aA wj W->oX 164 #[.agg #[.string (aB x.num),.string (aE x.den)],.agg #[.string (aB f.num),.string (aE f.den)]] W (.tuple #[.agg #[.string (aB q.num),.string (aE q.den)],.int .i64 0])):=fun W hW=>by
          rw [hq];exact Z15 x f W ((HA1.get HRK.1 hx).mono (by omega)) ((HA1.get HRK.1 HRK.2.2).mono (by omega)) Br (HT.ext (Bs.trans hW))
         have tT:Hid (∀ W,aA wj W->cH w ((W.setCell ⟨t.1,j*2,none⟩ (.string (aB q.num))).setCell ⟨t.1,j*2+1,none⟩ (.string (aE q.den))) g0 w.heap.size om (m1.set k (cn (dE r f) r (j+1))) dd (.slice av k cv) ld o4/\cS ((W.setCell ⟨t.1,j*2,none⟩ (.string (aB q.num))).setCell ⟨t.1,j*2+1,none⟩ (.string (aE q.den))) wq.heap.size f):=fun W hW=>by
          have hn:=(qK.ext hW).setEl vK xy hP (j:=j) (by rw [wV];exact hj) q;rw [List.set_set,H2_ BK.out (by rw [hq];exact Z0w hx)] at hn;exact ⟨hn.1,hn.2 _ _ (Bt.ext hW) GM⟩
         have HFR:Hid (∀ W,aA wj W->W.frozen? ⟨t.1,j*2,none⟩=false/\W.frozen? ⟨t.1,j*2+1,none⟩=false):=fun W hW=>⟨(hrow.ext hW).free _,(hrow.ext hW).free _⟩
         clear rO hP wV hPx hrow hx hq hrl;go_wp2_with fail;refine jE (fun w'=>w'.cell? ⟨g0,k,none⟩=some (.slice (some ⟨t.1,0,none⟩) C t.2)/\w'.cell? ⟨t.1,j*2,none⟩=some (.string (aB x.num))/\w'.cell? ⟨t.1,j*2+1,none⟩=some (.string (aE x.den))/\w'.cell? ⟨wq.heap.size,0,none⟩=some (.string (aB f.num))/\w'.cell? ⟨wq.heap.size,1,none⟩=some (.string (aE f.den))/\Hid (aA wj w')) 18 (by kernel_rfl) ⟨(aA.drew wj).cell c1,(aA.drew wj).cell g2,(aA.drew wj).cell g3,(aA.drew wj).cell e0,(aA.drew wj).cell e1,aA.drew wj⟩ (fun oh=>?_);refine rA [0,1,2,3,4,5,6,7,8,9,10,11,12] ?_
         iterate 13 ((first|(refine rL (v:=?_) (by rfl) (Or.inl ⟨by rfl,?_⟩) ?_;rotate_left;·((intro w' pO);(try dsimp only at pO);(try go_simp);(try with_reducible rfl)))|(refine rW (v:=?_) (by rfl) (Or.inl ⟨by rfl,?_⟩) ?_;rotate_left;·((intro w');(try go_simp);(try with_reducible rfl))));(try simp only [Act.put,aP,aQ,aR]))
         refine rE ?_;refine dh 13 (by kernel_rfl) rfl (fun K hK=>?_);go_simp
         (go_at_call 164;refine (Hk _ oh.2.2.2.2.2).mono ?_)
         rintro e w5 ⟨rfl,o5⟩;go_wp2_with fail;refine hK _ _ (⟨o5.cell oh.1,o5.cell oh.2.1,o5.cell oh.2.2.1,o5.cell oh.2.2.2.1,o5.cell oh.2.2.2.2.1,aA.trans oh.2.2.2.2.2 o5⟩) (fun oh=>?_);clear hK K
         (try simp only [Act.put,aP,aQ,aR])
         refine rA [14,15,16,17] ?_
         iterate 4 (refine rW (v:=?_) (by rfl) (Or.inl ⟨by rfl,?_⟩) ?_;rotate_left;·((intro w');(try go_simp);(try with_reducible rfl));(try simp only [Act.put,aP,aQ,aR]))
         refine rE ?_;have z1:=oh.2.1;have z2:=oh.2.2.1;have z3:=HFR _ oh.2.2.2.2.2;obtain ⟨z4,z5⟩:=z3;have HM7:=tT _ oh.2.2.2.2.2;refine fw 18 (by kernel_rfl) (by kernel_rfl) (by kernel_rfl) rfl (fun K hK=>?_);go_simp;refine hK _ _ ?_;clear hK K
         (try simp only [Act.put,aP,aQ,aR])
         go_wp2_with fail;go_roundw
         case rel=>exact ⟨j+1,by go_num,by omega,HM7.1,HM7.2⟩
         case measure=>simp [intOf];omega
        ·have Da:Hid (cH w wj g0 w.heap.size om (m1.set k (dE r f)) dd (.slice av k cv) ld o4):=by
          have h8:=qK.out;rw [I9_ _ _ _ BK.out (by rw [HRK.out.2.1];omega)] at h8;exact h8
         obtain ⟨p,hp⟩:=oc (dE r f);have MZ:Hid (∀ (j:Nat) y,p[j]?=some y->RS 5002 y):=by
          intro j y hy;rw [hp] at hy;unfold dE at hy;rw [oF] at hy;obtain ⟨x,hx,rfl⟩:=Option.map_eq_some_iff.1 hy;exact (Z4X (HA1.get HRK.1 hx) (HA1.get HRK.1 HRK.2.2) Br).mono (by omega)
         have HPL:Hid (p.length=C):=(by unfold Hid;rw [hp,W7_];exact HRK.2.1);rw [<- hp] at Da HNX;obtain ⟨m2,wO⟩:=oc (m1.set k p);rw [<- wO] at Da HNX;have A6:Hid (bY C m2/\m2.length=L):=(by unfold Hid;rw [wO];exact ⟨qc.1.set _ HPL,by rw [List.length_set];exact qc.2⟩);have Jg:Hid (m2[k]?=some p):=(by unfold Hid;rw [wO];exact v4_ HRK.1);have yZ:Hid (∀ (i j:Nat) ri x,i≠k->m2[i]?=some ri->ri[j]?=some x->RS 2500 x):=by
          intro i j ri x hik qJ hx;rw [wO,oW,if_neg (fun e=>hik e.symm)] at qJ;exact HA1.get qJ hx
         obtain ⟨tk,vA,c2,vt,hk2,-⟩:=Da.mat.get Jg;obtain rfl:t=tk:=oM (xy.symm.trans vA);clear vA c2 hp wO qK Bt BK qc HA1 HD1 Br HRK;go_wp2_with fail
         go_loopw [103] (fun tv wr=>∃ i:Nat,tv=.int .i64 i/\i<=L/\Hid (cH w wr g0 w.heap.size om (dL m2 p c k i) dd (.slice av k cv) ld o4)) (fun tv _=>L-(intOf tv).toNat)
         case atStart=>exact ⟨0,rfl,by omega,Da⟩
         case round =>
          obtain ⟨i,rfl,FL,HMI⟩:=hrel;obtain ⟨wi,rfl⟩:∃ wi:World,wi=wr:=⟨_,rfl⟩;clear Da;by_cases hi:i<L
          ·obtain ⟨M,hM⟩:=oc (dL m2 p c k i);obtain ⟨ri,qJ⟩:=oc (cC M i);have Lc:M.length=L:=(by rw [hM,ju];exact A6.2);have yU:M[i]?=some ri:=(by rw [qJ];exact gi (by omega));have IH:bY C M:=(by rw [hM];exact A6.1.elim HPL c k i (by rw [A6.out.2];omega));have hril:=IH.get yU;have Jj:Hid (m2[i]?=some ri):=(by unfold Hid;rw [<- W8_ m2 p c k i i (oK _),<- hM];exact yU);have MK:Hid (M[k]?=some p):=(by unfold Hid;rw [hM,N2_];exact Jg);have rz:Hid (dL m2 p c k (i+1)=M.set i (iN p c k i ri)):=(by unfold Hid;rw [qJ,hM];rfl);obtain ⟨x,hx⟩:∃ x,ri[c]?=some x:=⟨_,oB (by omega)⟩;have Ja:Hid (ri.getD c 0=x):=(by unfold Hid;rw [oD,hx];rfl);rw [<- hM] at HMI;obtain ⟨ti,vh,c1,sy,pg,hrow,hne,hbq⟩:=HMI.mat.get yU;rw [hril] at c1 sy;have xx:Hid (o4[i]?=some ti):=vh;have g2:=hrow.num c x hx;have g3:=hrow.den c x hx;have HRI:Hid (M[i]?=some ri/\ri.length=C/\ri[c]?=some x):=⟨yU,hril,hx⟩;obtain ⟨W9,NK,xt,vk,pz⟩:=dU wi (.string (aB x.num)) (.string (aE x.den)) 152;have HE9:=oA xt;have Jt:Hid (∀ W,aA W9 W->cS W wi.heap.size x):=fun W hW=>aJ pz hW;have GN:w.heap.size<=wi.heap.size:=by have:=HMI.size;omega
           obtain ⟨e0,e1,e2,e3⟩:=(Jt W9 (aA.refl _)).cells;clear hM qJ Lc yU IH hril hx vh hrow hne hbq xt vk pz;by_cases hik:i=k
           ·have hb:((i:Int) == (k:Int))=true:=(by rw [hik];exact beq_self_eq_true _);have sf:Hid (cH w W9 g0 w.heap.size om (dL m2 p c k (i+1)) dd (.slice av k cv) ld o4):=by
             unfold Hid;rw [rz.out];unfold iN;rw [if_pos (.inl hik),nx HRI.out.1];exact HMI.ext HE9
            clear hik;go_wp2_with fail;go_roundw
            case rel=>exact ⟨i+1,by go_num,by omega,sf⟩
            case measure=>simp [intOf];omega
           ·have hb:((i:Int) == (k:Int))=false:=(by rw [beq_eq_false_iff_ne];omega);have HIK:=oA hik;have HSG:Hid (∀ W,oX 160 #[.agg #[.string (aB x.num),.string (aE x.den)]] W (.int .i64 x.num.sign)):=fun W=>U4_ x W;have hsz:=S3_ x;obtain ⟨Mc,B8⟩:=oc x.num.sign;rw [<- B8] at HSG hsz;clear B8 hik;by_cases pG:x=0
            ·rw [oT pG] at hsz;have HX0:=oA pG;clear pG;go_wp2_with fail;refine (HSG _).mono ?_;rintro e w5 ⟨rfl,o5⟩;have sf:Hid (cH w w5 g0 w.heap.size om (dL m2 p c k (i+1)) dd (.slice av k cv) ld o4):=by
              unfold Hid;rw [rz.out];unfold iN;rw [if_pos (.inr (Ja.out.trans HX0.out)),nx HRI.out.1];exact HMI.ext (HE9.trans o5)
             clear o5 HSG c1 g2 g3 e0 e1 e2 e3;go_wp2_with fail;go_roundw
             case rel=>exact ⟨i+1,by go_num,by omega,sf⟩
             case measure=>simp [intOf];omega
            ·rw [oS pG] at hsz;have HX0:=oA pG;clear pG;go_wp2_with fail;refine (HSG _).mono ?_;rintro e w5 ⟨rfl,o5⟩;have HM9:=oA (HMI.ext (HE9.trans o5));have HBX9:=oA (Jt _ o5);have A1:Hid (dL m2 p c k (i+1)=M.set i (fp ri p x)):=by
              unfold Hid;rw [rz.out];unfold iN;rw [Ja.out,if_neg (fun h=>h.elim HIK.out HX0.out)]
             have c1':=(HE9.trans o5).cell c1;have HSL:Hid ((fp ri p x).length=ri.length):=A2_ _ _ _ (by rw [HPL.out,HRI.out.2.1]);clear o5 HSG c1 g2 g3 e0 e1 e2 e3;go_wp2_with fail;clear c1'
             go_loopw [126] (fun tv wr=>∃ j:Nat,tv=.int .i64 j/\j<=C/\Hid (cH w wr g0 w.heap.size om (M.set i (cn (fp ri p x) ri j)) dd (.slice av k cv) ld o4)/\Hid (cS wr wi.heap.size x)) (fun tv _=>C-(intOf tv).toNat)
             case atStart=>exact ⟨0,rfl,by omega,by unfold Hid;rw [P7_,nx HRI.out.1];exact HM9,HBX9⟩
             case round =>
              obtain ⟨j,rfl,Kq,qK,Bt⟩:=hrel;obtain ⟨wk,rfl⟩:∃ wk:World,wk=wr:=⟨_,rfl⟩;clear HM9 HBX9;by_cases Ks:j<C
              ·have hrl:=HRI.2.1;have hpl:=HPL.out;obtain ⟨u,hu⟩:∃ u,ri[j]?=some u:=⟨_,oB (by omega)⟩;obtain ⟨y,hy⟩:∃ y,p[j]?=some y:=⟨_,oB (by omega)⟩;have hP:(M.set i (cn (fp ri p x) ri j))[i]?=some (cn (fp ri p x) ri j):=v4_ HRI.1;have Bc:(M.set i (cn (fp ri p x) ri j))[k]?=some p:=(by rw [oW,if_neg HIK.out];exact MK);have wV:(cn (fp ri p x) ri j).length=C:=(by rw [H1_ _ _ _ HSL.out];exact HRI.2.1);have hPu:=H0_ HSL (oK j) hu;obtain ⟨t',rO,c1,-,-,hrow,-⟩:=qK.mat.get hP;obtain rfl:ti=t':=oM (xx.symm.trans rO);obtain ⟨t',vi,c2,-,-,rU,-⟩:=qK.mat.get Bc;obtain rfl:t=t':=oM (xy.symm.trans vi);rw [wV] at c1;rw [hpl] at c2;have g2:=hrow.num j u hPu;have g3:=hrow.den j u hPu;have y2:=rU.num j y hy;have y3:=rU.den j y hy;obtain ⟨e0,e1,-,-⟩:=Bt.cells;obtain ⟨s1,hs1⟩:=oc (x*y);obtain ⟨q,hq⟩:=oc (u-s1);have Bs:Hid (aA wb wk):=Below.trans HWB (qK.grown.belowE (B:=wb.heap.size) HBL HWB.size);have hxs:RS 2500 x:=yZ i c ri x HIK Jj HRI.2.2;have hys:RS 5002 y:=MZ j y hy;have IA:RS 2500 u:=yZ i j ri u HIK Jj hu;have DX:Hid (∀ W,aA wk W->oX 163 #[.agg #[.string (aB x.num),.string (aE x.den)],.agg #[.string (aB y.num),.string (aE y.den)]] W (.agg #[.string (aB s1.num),.string (aE s1.den)])):=fun W hW=>by
                rw [hs1];exact B5_ x y W (hxs.mono (by omega)) (hys.mono (by omega)) (HT.ext (Bs.trans hW))
               have pI:Hid (∀ W,aA wk W->oX 165 #[.agg #[.string (aB u.num),.string (aE u.den)],.agg #[.string (aB s1.num),.string (aE s1.den)]] W (.agg #[.string (aB q.num),.string (aE q.den)])):=fun W hW=>by
                rw [hq];exact Z16 u s1 W (IA.mono (by omega)) (by rw [hs1];exact (Z52 hxs hys).mono (by omega)) (HT.ext (Bs.trans hW))
               have tT:Hid (∀ W,aA wk W->cH w ((W.setCell ⟨ti.1,j*2,none⟩ (.string (aB q.num))).setCell ⟨ti.1,j*2+1,none⟩ (.string (aE q.den))) g0 w.heap.size om (M.set i (cn (fp ri p x) ri (j+1))) dd (.slice av k cv) ld o4/\cS ((W.setCell ⟨ti.1,j*2,none⟩ (.string (aB q.num))).setCell ⟨ti.1,j*2+1,none⟩ (.string (aE q.den))) wi.heap.size x):=fun W hW=>by
                have hn:=(qK.ext hW).setEl vK xx hP (j:=j) (by rw [wV];exact Ks) q;rw [List.set_set,H2_ HSL.out (by rw [hq,hs1];exact Z1j hu hy)] at hn;exact ⟨hn.1,hn.2 _ _ (Bt.ext hW) GN⟩
               have HFR:Hid (∀ W,aA wk W->W.frozen? ⟨ti.1,j*2,none⟩=false/\W.frozen? ⟨ti.1,j*2+1,none⟩=false):=fun W hW=>⟨(hrow.ext hW).free _,(hrow.ext hW).free _⟩
               clear rO vi hP Bc wV hPu hrow rU hu hy hq hs1 hrl hpl hxs hys IA;go_wp2_with fail;refine jE (fun w'=>w'.cell? ⟨g0,i,none⟩=some (.slice (some ⟨ti.1,0,none⟩) C ti.2)/\w'.cell? ⟨g0,k,none⟩=some (.slice (some ⟨t.1,0,none⟩) C t.2)/\w'.cell? ⟨ti.1,j*2,none⟩=some (.string (aB u.num))/\w'.cell? ⟨ti.1,j*2+1,none⟩=some (.string (aE u.den))/\w'.cell? ⟨t.1,j*2,none⟩=some (.string (aB y.num))/\w'.cell? ⟨t.1,j*2+1,none⟩=some (.string (aE y.den))/\w'.cell? ⟨wi.heap.size,0,none⟩=some (.string (aB x.num))/\w'.cell? ⟨wi.heap.size,1,none⟩=some (.string (aE x.den))/\Hid (aA wk w')) 23 (by kernel_rfl) ⟨(aA.drew wk).cell c1,(aA.drew wk).cell c2,(aA.drew wk).cell g2,(aA.drew wk).cell g3,(aA.drew wk).cell y2,(aA.drew wk).cell y3,(aA.drew wk).cell e0,(aA.drew wk).cell e1,aA.drew wk⟩ (fun oh=>?_);refine rA [0,1,2,3,4,5,6,7,8,9,10,11,12,13,14,15,16,17,18,19] ?_
               iterate 20 ((first|(refine rL (v:=?_) (by rfl) (Or.inl ⟨by rfl,?_⟩) ?_;rotate_left;·((intro w' pO);(try dsimp only at pO);(try go_simp);(try with_reducible rfl)))|(refine rW (v:=?_) (by rfl) (Or.inl ⟨by rfl,?_⟩) ?_;rotate_left;·((intro w');(try go_simp);(try with_reducible rfl))));(try simp only [Act.put,aP,aQ,aR]))
               refine rE ?_;refine dh 20 (by kernel_rfl) rfl (fun K hK=>?_);go_simp
               (go_at_call 163;refine (DX _ oh.2.2.2.2.2.2.2.2).mono ?_)
               rintro e w5 ⟨rfl,o5⟩;go_wp2_with fail;refine hK _ _ (⟨o5.cell oh.1,o5.cell oh.2.1,o5.cell oh.2.2.1,o5.cell oh.2.2.2.1,o5.cell oh.2.2.2.2.1,o5.cell oh.2.2.2.2.2.1,o5.cell oh.2.2.2.2.2.2.1,o5.cell oh.2.2.2.2.2.2.2.1,aA.trans oh.2.2.2.2.2.2.2.2 o5⟩) (fun oh=>?_);clear hK K
               (try simp only [Act.put,aP,aQ,aR])
               refine dh 21 (by kernel_rfl) rfl (fun K hK=>?_);go_simp
               (go_at_call 165;refine (pI _ oh.2.2.2.2.2.2.2.2).mono ?_)
               rintro e w5 ⟨rfl,o5⟩;go_wp2_with fail;refine hK _ _ (⟨o5.cell oh.1,o5.cell oh.2.1,o5.cell oh.2.2.1,o5.cell oh.2.2.2.1,o5.cell oh.2.2.2.2.1,o5.cell oh.2.2.2.2.2.1,o5.cell oh.2.2.2.2.2.2.1,o5.cell oh.2.2.2.2.2.2.2.1,aA.trans oh.2.2.2.2.2.2.2.2 o5⟩) (fun oh=>?_);clear hK K
               (try simp only [Act.put,aP,aQ,aR])
               refine tW (v:=?_) 22 rfl (Or.inl ⟨by rfl,?_⟩) ?_;rotate_left;·((intro w');(try go_simp);(try with_reducible rfl))
               (try simp only [Act.put,aP,aQ,aR])
               have z1:=oh.2.2.1;have z2:=oh.2.2.2.1;obtain ⟨z4,z5⟩:=HFR _ oh.2.2.2.2.2.2.2.2;have HM7:=tT _ oh.2.2.2.2.2.2.2.2;refine fw 23 (by kernel_rfl) (by kernel_rfl) (by kernel_rfl) rfl (fun K hK=>?_);go_simp;refine hK _ _ ?_;clear hK K
               (try simp only [Act.put,aP,aQ,aR])
               go_wp2_with fail;go_roundw
               case rel=>exact ⟨j+1,by go_num,by omega,HM7.1,HM7.2⟩
               case measure=>simp [intOf];omega
              ·have sf:Hid (cH w wk g0 w.heap.size om (dL m2 p c k (i+1)) dd (.slice av k cv) ld o4):=by
                have h8:=qK.out;rw [I9_ _ _ _ HSL.out (by rw [HRI.out.2.1];omega)] at h8;unfold Hid;rw [A1.out];exact h8
               go_wp2_with fail;go_roundw
               case rel=>exact ⟨i+1,by go_num,by omega,sf⟩
               case measure=>simp [intOf];omega
          ·have HM3:Hid (cH w wi g0 w.heap.size om (dL m2 p c k L) dd (.slice av k cv) ld o4):=by
            have AX:i=L:=(by omega);rw [<- AX];exact HMI
           have HB3:=oA HM3.lead.build;have HLL:Hid (ld.length<1000000):=(by unfold Hid;rw [<- HK.out];omega);have hszr:w.heap.size+1<=wi.heap.size:=HM3.size;go_wp2_with (at_builtin;go_must (refine eM _ rfl _ _ 26 rfl (w.heap.size+1) 3 (.int .i64 0) 1 8 underlying26 jy rfl (by decide) (.slice av k cv) nS ld c #[.int .i64 c] 3 rfl HB3 rfl rfl ?e1 (fun _ _=>rfl) HLL (by decide) hszr ?_))
           all_goals first | (simp [Value.oneCell'];done) | skip
           intro v' w5 o8 pS hb5 qu _;have HF:=oA ((HM3.push vK (oK _) hb5 o8.ownI).redOf HNX);clear o8 pS hb5 HB3;go_wp2_with fail;go_roundw
           case rel=>exact ⟨c+1,o4,by omega,by go_num,HF⟩
           case measure=>simp [intOf];omega
    ·obtain rfl:a=L:=(by omega);have HMID:Hid (cH w wi g0 w.heap.size om m d (.slice av k cv) ld tags) :=
      ⟨HMM.ext HE,HBB.ext HE,HLD.ext HE,HSAME,HP.trans (HE.grownS _),oI HDS HE.size⟩
     obtain ⟨z,hz⟩:∃ z:Rat,z=0:=⟨_,rfl⟩;have HNX:Hid (ai m0 (c+1)=⟨m,ld,z⟩):=by
      unfold Hid;rw [HST.out,Z1h,hz];rw [qt.out.2,<- HK.out];exact y3_ m c _ k a BU (by omega) HZ (fun h=>by omega)
     have zr:Hid (∀ W,oX 161 #[] W (.agg #[.string (aB z.num),.string (aE z.den)])):=by
      unfold Hid;rw [hz];exact fun W=>Z3w W
     clear hz HST HZ HMM HBB HLD;go_wp2_with fail;refine (zr _).mono ?_;rintro e w5 ⟨rfl,o5⟩;have HM5:=oA (HMID.ext o5);obtain ⟨b0,b1,b2,b3⟩:=HM5.box.cells;have HF:=oA (HM5.setBox HBG (oK _) z);clear o5 zr;go_wp2_with fail;go_roundw
     case rel=>exact ⟨c+1,tags,by omega,by go_num,HF.redOf HNX⟩
     case measure=>simp [intOf];omega
  ·obtain rfl:c=n:=(by omega);have HMID:=oA HR.mid;have HBG:Hid (∀ b,bV g0 tags b->b<w.heap.size):=fun b hb=>HBW b ((HR.same b).1 hb);obtain ⟨d,hd⟩:=oc ((ai m0 c).det);rw [<- hd] at HMID;have Dj:Hid (d=(ai m0 c).det):=hd;have HM6:=oA (HMID.ext (aA.drew _));obtain ⟨b0,b1,b2,b3⟩:=HMID.box.cells;have HF:=oA (HM6.setBox HBG (oK _) d);clear hd HR HP Jp HOK HSH;go_wp2_with fail
   go_region
   all_goals
    go_wp2_with fail;refine bodyPost_ret (X5_ (by rfl) _ _ w.heap.size 152 #[.string (aB d.num),.string (aE d.den)] (0,0) _ (.slice av k cv) (by rfl) (by rfl) HF.box underlying152 (by rfl) (by kernel_rfl)) (by rfl) ⟨_,tags,by rw [<- Dj.out];rfl,HF.lead.low (Nat.le_succ _),HF.mat,HF.same,HF.grown⟩
def iY (xss:oe) (mo:Nat->List Rat) (i:Nat):List (List Rat):=(List.range i).map fun k=>cw (xss.getD k [])++mo k
theorem g3_ {xss:oe} {mo:Nat->List Rat} {i:Nat} {r:og} (h:xss[i]?=some r):iY xss mo (i+1)=iY xss mo i++[cw r++mo i]:=by
 unfold iY;rw [List.range_succ,List.map_append,List.map_cons,List.map_nil,oD (l:=xss),h];rfl
theorem Z1c (xss:oe) (mo:Nat->List Rat) (i:Nat):(iY xss mo i).length=i:=by simp [iY]
theorem Z1b {r:og} {k:Nat} {x:Int} (h:r[k]?=some x):cw (r.take (k+1))=cw (r.take k)++[(x:Rat)]:=by
 unfold cw;rw [oH,h,List.map_append];rfl
def Z4S (g:Nat) (lb:Array Value) (n:Nat) (mo:Nat->List Rat) (w:World):Prop :=
 ∀ (i:Nat) W,i<n->aA w W->Calls prog g (#[.int .i64 (i:Int)]++lb) W fun e W'=>∃ u,e=.returned u/\gY W' u (mo i)/\aA W W'
theorem Z4F (xss:oe) (v:Value) (g:Nat) (lb:Array Value) (mo:Nat->List Rat) (w:World) (h:bN w v xss) (hl:xss.length<=1000) (hr:∀ r∈xss,r.length<=1000)
  (su:∀ i r,xss[i]?=some r->0<r.length+(mo i).length/\(mo i).length<=1000) (eg:∀ args w,(callFunc g args).run prog w=.ok (.enter g args) w) (hm:Z4S g lb xss.length mo w) (ht:ae w) :
  Calls prog 110 #[v,.func (.func g) #[] lb] w fun e w'=>∃ u tags,e=.returned u/\bf kF 197 w' w.heap.size w.heap.size u tags (iY xss mo xss.length)/\aA w w':=by
 obtain ⟨a,c,rfl,h1,h2,-,hc⟩:=bc.open h;have HC:=oA hc;have HM:=oA hm;have HT:=oA ht;have HR:=oA hr;have HMO:=oA su;unfold maxLen at h2;clear h hc hm ht hr su
 go_enter func110,ntmps110
 go_wp2_with fail
 go_loopw [13,5] (fun t v wr=>∃ (i:Nat) (tags:List (Nat×Nat)),i<=xss.length/\t=.int .i64 i/\aA w wr/\Hid (bf kF 197 wr w.heap.size w.heap.size v tags (iY xss mo i))) (fun t _ _=>xss.length-(intOf t).toNat)
 case atStart=>exact ⟨0,[],by omega,rfl,aA.refl _,bf.nil _ _ _ _ _⟩
 case round =>
  obtain ⟨i,tags,hin,rfl,hE,HO⟩:=hrel;obtain ⟨wo,rfl⟩:∃ wo:World,wo=wr:=⟨_,rfl⟩;have HE:=oA hE;by_cases hlt:i<xss.length
  ·obtain ⟨b,off,rfl,hb,hcell⟩:=HC (by intro e;simp [e] at hlt);obtain ⟨r,hx⟩:∃ x,xss[i]?=some x:=⟨xss[i],oB hlt⟩;obtain ⟨vx,qg,hcx⟩:=hcell i r hx;obtain ⟨ax,cx,rfl,k1,k2,-,hbd,kc⟩:=bL.open qg;have g1:=hE.cell hcx;have HX:=oA (bL.ext qg hE);have HK:=oA kc;have HBD:=oA hbd;have HI:=oA hx;have HSU:=oA (g3_ (mo:=mo) hx);have hrl:=HR r (oE hx);have HMI:=oA (HMO i r hx);unfold maxLen at k2;clear hcell hx qg hcx kc hbd;go_wp2_with fail;clear g1
   go_loopw [20,8] (fun t v wr=>∃ k:Nat,k<=r.length/\t=.int .i64 k/\Hid (aA wo wr)/\Hid (eB wo.heap.size wr v (cw (r.take k)))) (fun t _ _=>r.length-(intOf t).toNat)
   case atStart=>exact ⟨0,by omega,rfl,aA.refl _,eB.nil _ _⟩
   case round =>
    obtain ⟨k,hk,rfl,qe,HQ⟩:=hrel;obtain ⟨wi,rfl⟩:∃ wi:World,wi=wr:=⟨_,rfl⟩;by_cases hlk:k<r.length
    ·obtain ⟨bx,offx,rfl,hbx,rn⟩:=HK (by intro e;simp [e] at hlk);obtain ⟨x,hx⟩:∃ x,r[k]?=some x:=⟨r[k],oB hlk⟩;have g1:=(HE.trans qe).cell (rn k x hx);have HTK:=oA (Z1b hx);have hb:=HBD x (oE hx);have HOF:=oA (j_ x wi hb.1 hb.2 (HT.ext (HE.trans qe)));clear rn hx hb;go_wp2_with fail;refine HOF.mono ?_;rintro e w1 ⟨rfl,hE1⟩;have HQ1:=oA (HQ.ext hE1);have HX1:=oA (aA.trans qe hE1);have HQ2:Hid (eB wo.heap.size (w1.alloc (.cells #[.string (aB x),.string ⟨#[49]⟩] 152)) u8 (cw (r.take k))):=HQ1.ext (aA.alloc _ _);have HU:Hid (gY (w1.alloc (.cells #[.string (aB x),.string ⟨#[49]⟩] 152)) (.slice (some ⟨w1.heap.size,0,none⟩) 1 1) [(x:Rat)]):=by
      have:=gY.one w1 (x:Rat) 152;rw [show ((x:Rat)).num=x from rfl,show ((x:Rat)).den=1 from rfl,ky] at this;exact this
     have hs1:wo.heap.size<=(w1.alloc (.cells #[.string (aB x),.string ⟨#[49]⟩] 152)).heap.size:=by
      have:=HX1.size;rw [World.size_alloc];omega
     have HS1:=oA hs1;have HLE:Hid ((cw (r.take k)).length+[(x:Rat)].length<1000000):=by
      unfold Hid;rw [S6_,oG];simp;omega
     clear hE1 HOF g1 hs1;go_wp2_with (at_builtin;go_must (refine Y4_ _ rfl _ _ rfl wo.heap.size u8 _ (cw (r.take k)) [(x:Rat)] rfl HQ2 rfl HU HLE HS1 ?_));intro v' w2 xn hb2 _;rw [<- HTK.out] at xn;have HQ3:=oA xn;have HX2:Hid (aA wo w2):=Below.trans (aA.trans HX1 (aA.alloc w1 (.cells #[.string (aB x),.string ⟨#[49]⟩] 152))) hb2;clear xn hb2;go_wp2_with fail;go_roundw
     case rel=>exact ⟨k+1,by omega,by go_num,HX2,HQ3⟩
     case measure=>simp [intOf];omega
    ·obtain rfl:k=r.length:=(by omega);rw [List.take_length] at HQ;have HCALL:=oA (HM i wi hlt (HE.trans qe));go_wp2_with fail;refine HCALL.mono ?_;rintro e w1 ⟨um,rfl,IB,hE1⟩;have HQ1:=oA (HQ.ext hE1);have HX1:=oA (aA.trans qe hE1);have HUM:=oA IB;have HLE:Hid ((cw r).length+(mo i).length<1000000):=by
      unfold Hid;have:=HMI.2;rw [S6_];omega
     have HS1:=oA HX1.size;clear hE1 HCALL IB;go_wp2_with (at_builtin;go_must (refine Y4_ _ rfl _ _ rfl wo.heap.size u8 _ (cw r) (mo i) rfl HQ1 rfl HUM HLE HS1 ?_));intro v' w2 xn hb2 _;have HX2:Hid (aA wo w2):=Below.trans HX1 hb2;obtain ⟨gq,cq,rfl,d1,d2,d3,d4⟩:=gF xn (by rw [oV,S6_];exact HMI.1);have HRQ:=oA xn.row;obtain ⟨nq,CS⟩:=oc ((cw r++mo i).length);rw [<- CS] at d3 |-;have HNQ:=oA CS;have HO2:=oA (HO.ext HX2);have HV:Hid (u5.ownBlock≠some gq):=fun e=>by have:=(HO.own.lt _ e).2;omega
     have HN:Hid (gq∉tags.map (·.1)):=fun e=>by have:=(HO.fresh e).2;omega
     have HSZ:Hid (w.heap.size<=gq/\w.heap.size<=w2.heap.size):=by
      have h1:=HE.size;have h2:=HX2.size;exact ⟨by omega,by omega⟩
     have HLN:Hid ((iY xss mo i).length<1000000):=(by unfold Hid;rw [Z1c];omega);have Dk:Hid ((cw r++mo i).length<=cq/\cq<=9223372036854775807):=⟨by rw [<- CS];exact d3,d4⟩;clear xn hb2 d1 d2 d3 d4 CS;go_wp2_with (at_builtin;go_must (refine Z3_ (K:=kF) (e:=197) underlying155 Z47 _ rfl _ _ rfl w.heap.size w.heap.size u5 tags (iY xss mo i) (gq,cq) (cw r++mo i) #[.slice (some ⟨gq,0,none⟩) nq cq] 197 rfl HO2 (by rfl) (by rw [HNQ.out];rfl) Dk.1 Dk.2 HRQ HSZ.1 HV HN HLN HSZ.2 ?_));intro v' w5 vZ hb5 _;rw [<- HSU.out] at vZ;have HO5:=oA vZ;have HX5:=oA (Below.trans (aA.trans HE HX2) hb5);clear vZ hb5;go_wp2_with fail;go_roundw
     case rel=>exact ⟨i+1,_,by omega,by go_num,HX5,HO5⟩
     case measure=>simp [intOf];omega
  ·obtain rfl:i=xss.length:=(by omega);go_wp2_with fail;go_ret;exact ⟨_,tags,rfl,HO,hE⟩
theorem i5_ (i:Int) (w:World):oY 111 #[.int .i64 i] w (.slice none 0 0):=by
 go_enter func111,ntmps111
 go_wp2
 go_ret;exact ⟨rfl,rfl⟩
theorem gY.nil (w:World):gY w (.slice none 0 0) []:=⟨[],rfl,by simp,⟨none,0,rfl,oK _,Nat.zero_le _,fun _=>rfl,fun h=>absurd rfl h⟩,by simp⟩
theorem p8_ (n:Nat) (w:World):Z4S 111 #[] n (fun _=>[]) w:=fun i W _ _ =>
 (i5_ i W).mono fun e W' ⟨h1,h2⟩=>⟨_,h1,gY.nil _,h2▸aA.refl _⟩
def bZ (xss:oe):Nat:=(xss.headD []).length
theorem m1_ (n:Nat):∀ xss,ib n xss=0->∀ r∈xss,r.length=n/\r.length<=12/\∀ x∈r,-1000000000<=x/\x<=1000000000
 | [],_,r,hr=>by simp at hr
 | q::l,h,r,hr=>by
  unfold ib at h
  split at h
  ·cases h
  ·split at h
   ·split at h
    ·cases h
    ·rename_i h1 h2 h3;rcases List.mem_cons.1 hr with rfl | hr
     ·refine ⟨h2,by omega,fun x hx=>?_⟩;rw [<- nQ];simp only [List.any_eq_true,Bool.not_eq_true',not_exists,not_and,Bool.not_eq_false] at h3;exact h3 x hx
     ·exact m1_ n l h r hr
   ·cases h
theorem jd {xss:oe} (h:cK xss=0):xss.length<=12/\∀ r∈xss,r.length=bZ xss/\r.length<=12/\∀ x∈r,-1000000000<=x/\x<=1000000000:=by
 unfold cK at h
 split at h
 ·cases h
 ·exact ⟨by omega,m1_ _ xss h⟩
theorem g2_ (xss:oe):iY xss (fun _=>[]) xss.length=bF xss:=by
 unfold iY bF;apply List.ext_getElem;·simp
 ·intro i h1 h2;simp only [List.length_map,List.length_range] at h1;simp [h1]
theorem Z2F {xss:oe} {C:Nat} (h:∀ r∈xss,r.length=C):bY C (bF xss):=by
 intro r hr;obtain ⟨q,hq,rfl⟩:=List.mem_map.1 hr;rw [S6_];exact h q hq
theorem l9_ (xss:oe) (v:Value) (w:World) (h:bN w v xss) :
  oY 106 #[v] w (.int .i64 (bZ xss:Int)):=by
 obtain ⟨a,c,rfl,h1,h2,-,hc⟩:=bc.open h;clear h;unfold maxLen at h2;cases xss with
 | nil =>
  clear hc
  go_enter func106,ntmps106
  go_wp2
  go_ret;exact ⟨rfl,rfl⟩
 | cons r l =>
  obtain ⟨b,off,rfl,hb,hcell⟩:=hc (by simp);obtain ⟨vx,qg,hcx⟩:=hcell 0 r rfl;obtain ⟨ax,cx,rfl,-,-,-,-,-⟩:=bL.open qg;rw [Nat.add_zero] at hcx;obtain ⟨m,hm⟩:=oc ((r::l).length);have hq:((m:Int) == 0)=false:=by rw [beq_eq_false_iff_ne,hm,List.length_cons];omega
  have hpos:(0:Int)<(m:Int):=by rw [hm,List.length_cons];omega
  have HCN:Hid (bZ (r::l)=r.length):=rfl;rw [<- hm] at h1 |-;clear hc hcell qg hm
  go_enter func106,ntmps106
  go_wp2
  go_ret;rw [HCN.out];exact ⟨rfl,rfl⟩
theorem h5_ (v:Value) (w:World) (hv:∃ a n c,v=.slice a n c) :
  oX 109 #[v,.int .i64 0] w (.tuple #[.slice none 0 0,bR 1]):=by
 obtain ⟨a,n,c,rfl⟩:=hv;obtain ⟨W1,qm,hE1,hs1,hb1⟩:=dU w (.string ⟨#[]⟩) (.string ⟨#[]⟩) 152;have HE1:=oA hE1;have HB1:Hid (∀ W,aA W1 W->af w.heap.size W):=fun W hW=>af.ext ⟨_,_,hb1⟩ hW;obtain ⟨r0,r1,rf⟩:=dS hb1;clear hE1 hb1 rf
 go_enter func109,ntmps109
 go_wp2_with fail;refine (Z02 _).mono ?_;rintro e w2 ⟨rfl,hE2⟩;have HE2:=oA hE2;obtain ⟨q0,q1,t0,t1,f0,f1⟩:=(HB1 _ hE2).open;have hbx:=(HB1 _ hE2);rw [w8_];have s9:Hid (cS ((w2.setCell ⟨w.heap.size,0,none⟩ (.string ⟨#[49]⟩)).setCell ⟨w.heap.size,1,none⟩ (.string ⟨#[49]⟩)) w.heap.size 1):=by
  have:=hbx.res (x:=.string ⟨#[49]⟩) (y:=.string ⟨#[49]⟩);unfold Hid cS;rw [this];show some (Obj.cells #[.string ⟨#[49]⟩,.string ⟨#[49]⟩] 152 (0,0))=some (Obj.cells #[.string (aB 1),.string (aE 1)] 152 (0,0));rw [nT,ky]
 have HX:Hid (aA w ((w2.setCell ⟨w.heap.size,0,none⟩ (.string ⟨#[49]⟩)).setCell ⟨w.heap.size,1,none⟩ (.string ⟨#[49]⟩))):=eH (HE1.trans hE2) (oK _);clear hE2 hbx r0 r1;go_wp2_with fail;clear q0 q1 t0 t1 f0 f1;refine wp_loop_once ?_;obtain ⟨W3,xl⟩:=oc (((w2.setCell ⟨w.heap.size,0,none⟩ (.string ⟨#[49]⟩)).setCell ⟨w.heap.size,1,none⟩ (.string ⟨#[49]⟩)));rw [<- xl] at s9 HX |-;clear xl;obtain ⟨b0,b1,b2,b3⟩:=s9.cells;rw [show (1:Rat).num=1 from rfl,nT] at b0;rw [show (1:Rat).den=1 from rfl,ky] at b1;have HSET:=oA ((s9.ext (aA.drew W3)).set 1);have HX2:Hid (aA w ((W3.drew.setCell ⟨w.heap.size,0,none⟩ (.string ⟨#[49]⟩)).setCell ⟨w.heap.size,1,none⟩ (.string ⟨#[49]⟩))):=eH (HX.trans (aA.drew _)) (oK _);rw [show (1:Rat).num=1 from rfl,show (1:Rat).den=1 from rfl,nT,ky] at HSET;go_wp2_with fail
 go_region
 all_goals
  go_wp2_with fail;refine bodyPost_ret (X5_ (by rfl) _ _ w.heap.size 152 #[.string (aB 1),.string (aE 1)] (0,0) _ (.slice none 0 0) (by rfl) (by rfl) HSET underlying152 (by rfl) (by kernel_rfl)) (by rfl) ⟨rfl,HX2⟩
theorem bf.toMat {e:TypeId} {w:World} {ob base:Nat} {u:Value} {tags:List (Nat×Nat)} {m:List (List Rat)} (h:bf kF e w ob base u tags m) (hob:base<=ob) (hpos:0<m.length) :
  ∃ g cap,u=.slice (some ⟨g,0,none⟩) m.length cap/\cU w g tags m/\m.length<=cap/\cap<=9223372036854775807/\∀ b,bV g tags b->base<=b:=by
 obtain ⟨g,cap,rfl,-⟩:=gF h.own hpos;obtain ⟨h1,h2,h3,h4⟩:=h.matQ hob;exact ⟨g,cap,rfl,h1,h2,h3,h4⟩
theorem bf.form {α:Type} {K:gd α} {e:TypeId} {w:World} {ob base:Nat} {u:Value} {tags:List (Nat×Nat)} {m:List (List α)} (h:bf K e w ob base u tags m):∃ a n c,u=.slice a n c:=by
 rcases h.own.2 with ⟨rfl,hn⟩ | ⟨g,cap,cur,rfl,hb,hg,h1,h2,h3,h4⟩
 ·exact ⟨_,_,_,rfl⟩
 ·exact ⟨_,_,_,rfl⟩
structure Z6F (wb w1 w':World) (u v:Value) (om:List (Nat×Nat)) (m:List (List Rat)) (n:Nat):Prop where
 lead:cL w1.heap.size w' v (ai m n).lead
 ext:aA wb w'
 low:wb.heap.size<=w1.heap.size
 keep:aG (fun b=>b∈om.map (·.1)\/u.ownBlock=some b) w1 w'
 mat:m≠[]->∃ g tags cap,u=.slice (some ⟨g,0,none⟩) m.length cap/\cU w' g tags (ai m n).m/\m.length<=cap/\cap<=9223372036854775807/\∀ b,bV g tags b->wb.heap.size<=b
theorem F5_ (m:List (List Rat)) (n C:Nat) (u:Value) (tags:List (Nat×Nat)) (wb w1:World) (hO:bf kF 197 w1 wb.heap.size wb.heap.size u tags m) (tU:aA wb w1) (hC:bY C m) (hn:n<=C) (Bf:C<=1000) (hl:m.length<=1000)
  (hok:∀ c,c<n->gV 2500 (ai m c).m/\RS 9000 (ai m c).det) (ht:ae wb) (hz:m=[]->n=0) :
  Calls prog 109 #[u,.int .i64 (n:Int)] w1 fun e w'=>∃ v,e=.returned (.tuple #[v,bR (ai m n).det])/\Z6F wb w1 w' u v tags m n:=by
 by_cases hm:m=[]
 ·obtain rfl:=hz hm;refine (h5_ u w1 hO.form).mono ?_;rintro e w' ⟨rfl,hE⟩;exact ⟨_,rfl,cL.nil _ _,tU.trans hE,tU.size,hE.grownS _,fun h=>absurd hm h⟩
 ·obtain ⟨g,cap,rfl,h1,h2,h3,h4⟩:=hO.toMat (oK _) (List.length_pos_iff.2 hm);refine (Z1a m g cap n C tags wb w1 h1 hC hn Bf hl h2 h3 hok tU ht h4).mono ?_;rintro e w' ⟨v,tags',rfl,k1,k2,k3,k4⟩
  exact ⟨v,rfl,k1,Below.trans tU (k4.belowE (B:=wb.heap.size) h4 tU.size),tU.size,k4.weak (fun b _ hb=>by
   rcases List.mem_cons.1 hb with rfl | hb;·exact .inr rfl
   ·exact .inl hb),fun _=>⟨g,tags',cap,rfl,k2,h2,h3,fun b hb=>h4 b ((k3 b).1 hb)⟩⟩
def gP (xss:oe):Nat:=eL (bF xss) (bZ xss)
theorem H7_ (n:Int) (w:World) :
  oY 86 #[.string (aB n)] w (.int .i64 n.sign):=by
 have hp0:0<(aB n).size:=km n;have hz:=fV n;by_cases h0:n=0
 ·rw [oT h0] at hz;have HR:Hid (n.sign=0):=by unfold Hid;rw [h0];rfl
  rw [HR.out];clear h0 HR
  go_enter func86,ntmps86
  go_wp2_with fail;go_ret;exact ⟨rfl,rfl⟩
 ·rw [oS h0] at hz;by_cases h:n<0
  ·have q:=ni n h hp0;have HR:Hid (n.sign=-1):=Int.sign_eq_neg_one_of_neg h;rw [HR.out];clear h0 h HR
   go_enter func86,ntmps86
   go_wp2_with fail;go_ret;exact ⟨rfl,rfl⟩
  ·have q:=nH (aB n) n.toNat (c_ n (by omega)) hp0;have HR:Hid (n.sign=1):=Int.sign_eq_one_of_pos (by omega);rw [HR.out];clear h0 h HR
   go_enter func86,ntmps86
   go_wp2_with fail;go_ret;exact ⟨rfl,rfl⟩
theorem nn (n:Int) (w:World) (h1:-9223372036854775808<=n) (h2:n<=9223372036854775807) (ht:ae w) :
  oX 69 #[.int .i64 n] w (.string (aB n)):=by
 have HA:=oA (mA n w h1 h2 ht);clear ht
 go_enter func69,ntmps69
 go_wp2_with fail;refine o_ HA ?_;intro w1 HE1;clear HA;go_wp2_with fail;go_ret;exact ⟨rfl,HE1⟩
theorem kE (n:Int) (w:World) :
  oY 115 #[.string (aB n)] w (.string (aE n.natAbs)):=by
 have hp0:0<(aB n).size:=km n;have rZ:(0:Int)<((aB n).size:Int):=by omega
 by_cases h:n<0
 ·have q:=ni n h hp0;have HT:=oA (w1_ n h);have hp1:(1:Int)<=((aB n).size:Int):=by omega
  have hp2:1<=(aB n).size:=hp0;clear h
  go_enter func115,ntmps115
  go_wp2_with fail;go_ret;exact ⟨by rw [<- HT.out];rfl,rfl⟩
 ·have q:=nH (aB n) n.toNat (c_ n (by omega)) hp0;have HR:Hid (aB n=aE n.natAbs):=by unfold Hid;rw [c_ n (by omega)];congr 1;omega
  clear h
  go_enter func115,ntmps115
  go_wp2_with fail;go_ret;exact ⟨by rw [<- HR.out];rfl,rfl⟩
structure kP (s:ByteArray) (i0 u:Nat):Prop where
 size:i0<=s.size
 digs:(s.data.toList.drop i0).all bz=true
 val:aj 0 (s.data.toList.drop i0)=u
def jD (s:ByteArray) (i0 i:Nat):Nat:=aj 0 ((s.data.toList.drop i0).take (i-i0))
theorem Z2Y {s:ByteArray} {i0 i:Nat} (h0:i0<=i) (hi:i<s.size):jD s i0 (i+1)=jD s i0 i*10+(s[i].toNat-48):=by
 unfold jD;have h1:(s.data.toList.drop i0)[i-i0]?=some s[i]:=by
  rw [oU,show i0+(i-i0)=i by omega];exact kU s i hi
 rw [show i+1-i0=(i-i0)+1 by omega,oH,h1,jR];rfl
theorem kP.dig {s:ByteArray} {i0 u:Nat} (h:kP s i0 u) {i:Nat} (h0:i0<=i) (hi:i<s.size):48<=s[i].toNat/\s[i].toNat<=57:=by
 have h1:(s.data.toList.drop i0)[i-i0]?=some s[i]:=by
  rw [oU,show i0+(i-i0)=i by omega];exact kU s i hi
 exact of_decide_eq_true (List.all_eq_true.1 h.digs _ (oE h1))
theorem kP.le {s:ByteArray} {i0 u:Nat} (h:kP s i0 u) (i:Nat):jD s i0 i<=u:=by
 have hs:s.data.toList.drop i0=(s.data.toList.drop i0).take (i-i0)++(s.data.toList.drop i0).drop (i-i0):=(List.take_append_drop _ _).symm;rw [<- h.val,hs,jR];unfold jD;exact r0_ _ _
theorem kP.all {s:ByteArray} {i0 u:Nat} (h:kP s i0 u):jD s i0 s.size=u:=by
 unfold jD;rw [List.take_of_length_le (by rw [List.length_drop,<- Lib.size_eq];omega)];exact h.val
theorem Z4W (u:Nat):Lib.decDigits u≠[]:=by
 have h:=(kt (u:Int)).2.2.2;have e:Lib.itoa (u:Int)=Lib.decDigits u:=by unfold Lib.itoa;rw [if_neg (by omega)];rfl
 rwa [e] at h
theorem K9_ (u:Nat):aj 0 (Lib.decDigits u)=u:=by
 have h:=(kt (u:Int)).2.1;have e:Lib.itoa (u:Int)=Lib.decDigits u:=by unfold Lib.itoa;rw [if_neg (by omega)];rfl
 rw [e] at h;have hd:=gL u;cases hl:Lib.decDigits u with
 | nil=>have:=Z4W u;rw [hl] at this;exact absurd rfl this
 | cons c r =>
  rw [hl] at h hd;have hc:bz c=true:=by simp only [List.all_cons,Bool.and_eq_true] at hd;exact hd.1
  have hne:c≠45:=by intro e;rw [e] at hc;revert hc;decide
  rw [V3_ hne] at h;exact Int.ofNat.inj h
theorem Z4O (n:Int):kP (aB n) (if n<0 then 1 else 0) n.natAbs:=by
 by_cases h:n<0
 ·rw [if_pos h];have hl:(aB n).data.toList.drop 1=Lib.decDigits n.natAbs:=by rw [kj n h,fM];rfl
  exact ⟨by have:=km n;omega,by rw [hl];exact gL _,by rw [hl];exact K9_ _⟩
 ·rw [if_neg h];have hl:(aB n).data.toList.drop 0=Lib.decDigits n.natAbs:=by rw [c_ n (by omega),fM,List.drop_zero];congr 1;omega
  exact ⟨Nat.zero_le _,by rw [hl];exact gL _,by rw [hl];exact K9_ _⟩
theorem Z11 (n:Int) (w:World) (hn:-1000000000000000000<n/\n<1000000000000000000) :
  oX 178 #[.string (aB n)] w (.tuple #[.int .i64 n,.bool true]):=by
 have HT:=oA (Z4O n);have hp0:0<(aB n).size:=km n;have rZ:(0:Int)<((aB n).size:Int):=by omega
 obtain ⟨u,hu⟩:=oc n.natAbs;rw [<- hu] at HT;have Mm:u<1000000000000000000:=by omega
 have hsz:(aB n).size<=19:=by
  have h1:=er n;have h2:=jB n.natAbs 18 (by rw [show (10:Nat)^18=1000000000000000000 by decide];omega) (by omega);omega
 by_cases h:n<0
 case' pos =>
  rw [if_pos h] at HT;have q:=ni n h hp0;have hs2:2<=(aB n).size:=by
   rw [jW n h];have:0<(aE n.natAbs).size:=(by rw [Lib.size_eq,fM];exact List.length_pos_iff.2 (Z4W _));omega
  have q2:((1:Int) == ((aB n).size:Int))=false:=by rw [beq_eq_false_iff_ne];omega
  have Ex:n=-(u:Int):=by omega
  obtain ⟨i0,xV⟩:∃ i0:Nat,i0=1:=⟨1,rfl⟩
 case' neg =>
  rw [if_neg h] at HT;have q:=nH (aB n) n.toNat (c_ n (by omega)) hp0;have q2:((0:Int) == ((aB n).size:Int))=false:=by rw [beq_eq_false_iff_ne];omega
  have Ex:n=(u:Int):=by omega
  obtain ⟨i0,xV⟩:∃ i0:Nat,i0=0:=⟨0,rfl⟩
 all_goals
  have HI:=oA xV;have HNU:=oA Ex;rw [<- xV] at HT;clear h hu xV Ex;generalize aB n=s at *
  go_enter func178,ntmps178
  go_wp2_with fail;clear q q2
  go_loopw [5,7] (fun t v wr=>∃ i:Nat,i0<=i/\i<=s.size/\t=.int .i64 (i:Int)/\v=.int .i64 (-(jD s i0 i:Int))/\aA w wr) (fun t _ _=>s.size-(intOf t).toNat)
  case atStart=>exact ⟨i0,oK _,HT.size,by rw [HI.out];rfl,by unfold jD;rw [Nat.sub_self];rfl,by first | exact aA.refl _ | exact aA.drew _⟩
  case round =>
   obtain ⟨i,sy,pg,rfl,rfl,hE⟩:=hrel;by_cases hlt:i<s.size
   ·obtain ⟨Lv,Lu⟩:=HT.dig sy hlt;have hsu:=Z2Y sy hlt;have hle:=HT.le (i+1);obtain ⟨z,hz⟩:∃ z:Nat,s[i].toNat=z+48:=⟨s[i].toNat-48,by omega⟩;obtain ⟨p,hp⟩:=oc (jD s i0 i);rw [hz,<- hp,show z+48-48=z by omega] at hsu;have HSU:=oA hsu;rw [hsu] at hle;rw [<- hp];have e1:(s[i].toNat:Int)=(z:Int)+48:=(by rw [hz];rfl);have e2:IntKind.i64.wrap ((z:Int)+48-48)=(z:Int):=(by rw [IntKind.wrap_i64];omega);have e3:¬ (9:Int)<(z:Int):=(by omega);have e4:IntKind.i64.wrap (-9223372036854775808+(z:Int))=-9223372036854775808+(z:Int):=(by rw [IntKind.wrap_i64];omega);obtain ⟨dq,K7⟩:=oZ ((-9223372036854775808+(z:Int)).tdiv 10);have sN:dq<=-900000000000000000/\-1000000000000000000<=dq:=by
     have hneg:-9223372036854775808+(z:Int)=-(9223372036854775808-(z:Int)):=(by omega);rw [hneg,Int.neg_tdiv,Int.tdiv_eq_ediv_of_nonneg (by omega)] at K7;omega
    have e5:IntKind.i64.wrap dq=dq:=(by rw [IntKind.wrap_i64];omega);have e6:¬ (-(p:Int))<dq:=(by omega);have e7:IntKind.i64.wrap (-(p:Int)*10)=-(p:Int)*10:=(by rw [IntKind.wrap_i64];omega);have e8:IntKind.i64.wrap (-(p:Int)*10-(z:Int))=-(p:Int)*10-(z:Int):=(by rw [IntKind.wrap_i64];omega);have z1:=oS e3;have z2:=oS e6;clear hz hp hsu Lv Lu;have e9:IntKind.i64.wrap ((i:Int)+1)=(i:Int)+1:=(by rw [IntKind.wrap_i64];omega);go_wp2_with fail;go_roundw
    case rel=>exact ⟨i+1,by omega,by omega,by go_num,by rw [HSU.out];congr 1;omega,by first | exact hE | trivial⟩
    case measure=>simp [intOf];omega
   ·obtain rfl:i=s.size:=(by omega);rw [HT.out.all];have e1:((-(u:Int)) == -9223372036854775808)=false:=(by rw [beq_eq_false_iff_ne];omega);have e2:IntKind.i64.wrap (0 - -(u:Int))=(u:Int):=(by rw [IntKind.wrap_i64];omega);go_wp2_with fail;go_ret2;exact ⟨by rw [HNU.out];first | rfl | simp,by first | exact hE | trivial⟩
theorem np (n:Int) (w:World) (hn:-1000000000000000000<n/\n<1000000000000000000) :
  oX 126 #[.string (aB n)] w (.tuple #[.int .i64 n,.bool true]):=by
 have HD:=oA (kE n w);have HS:=oA (fun W=>Z11 n W hn);have hsz:=jB n.natAbs 18 (by rw [show (10:Nat)^18=1000000000000000000 by decide];omega) (by omega);have hz:¬ (18:Int)<((aE n.natAbs).size:Int):=by omega
 clear hn
 go_enter func126,ntmps126
 go_wp2_with fail;refine q_ HD ?_;go_wp2_with fail;refine o_ (HS _) ?_;intro w2 HE;clear HS HD;go_wp2_with fail;go_ret2;exact ⟨rfl,HE⟩
theorem Z30 (x y:Int) (w:World) (hx:-1000000000000000000<x/\x<1000000000000000000) (hy:-1000000000000000000<y/\y<1000000000000000000) (h0:y≠0) (ht:ae w) :
  oX 87 #[.string (aB x),.string (aB y)] w (.tuple #[.string (aB (aN x y)),.string (aB (aq x y))]):=by
 have HT:=oA ht;have hz:=fV y;rw [oS h0] at hz;obtain ⟨qH,sl⟩:=id hx;obtain ⟨tA,qz⟩:=id hy;have H1:=oA (np x w hx);have H2:Hid (∀ W,oX 126 #[.string (aB y)] W (.tuple #[.int .i64 y,.bool true])):=fun W=>np y W hy;have hrl:=mX x y h0;have hql:=u0_ x y;have vP:(aN x y).natAbs<=1000000000000000001:=by have:=nP x y;omega
 have qN:(aq x y).natAbs<=1000000000000000001:=by
  rcases Int.lt_trichotomy y 0 with h | h | h;·have:=lz x y h;omega
  ·exact absurd h h0
  ·have:=jv x y h;omega
 have H3:Hid (∀ W,aA w W->oX 69 #[.int .i64 (aN x y)] W (.string (aB (aN x y)))):=fun W hE=>nn _ W (by omega) (by omega) (HT.ext hE);have H4:Hid (∀ W,aA w W->oX 69 #[.int .i64 (aq x y)] W (.string (aB (aq x y)))):=fun W hE=>nn _ W (by omega) (by omega) (HT.ext hE);have hyb:(y == 0)=false:=beq_eq_false_iff_ne.2 h0;have pw:Hid (aN x y=if x.tmod y≠0/\decide (x.tmod y<0)≠decide (y<0) then x.tdiv y-1 else x.tdiv y):=rfl;have HFR:Hid (aq x y=if x.tmod y≠0/\decide (x.tmod y<0)≠decide (y<0) then x.tmod y+y else x.tmod y):=rfl;obtain ⟨fq,Cn⟩:=oc (aN x y);obtain ⟨fr,Aa⟩:=oc (aq x y);rw [<- Cn] at H3 pw vP |-;rw [<- Aa] at H4 HFR qN |-;obtain ⟨q,hq⟩:=oZ (x.tdiv y);obtain ⟨r,hr⟩:=oZ (x.tmod y);rw [hq] at pw hql;rw [hr] at HFR pw hrl;have e1:IntKind.i64.wrap q=q:=IntWalk.i64_in _ (by omega);have ph:¬ y=0:=h0;clear ht Cn Aa h0;by_cases c0:r=0
 ·have k0:(r != 0)=false:=by simp [c0]
  rw [if_neg (by simp [c0])] at pw HFR;rw [pw.out] at H3 |-;rw [HFR.out] at H4 |-;clear pw HFR c0
  go_enter func87,ntmps87
  go_wp2_with fail;refine o_ H1 ?_;intro w1 HE1;clear H1;go_wp2_with fail;refine p_ (H2 _) (aA.trans HE1) ?_;intro w2 HE2;clear H2;go_wp2_with fail
  go_quiet (fail)
  go_wp2_with fail;refine p_ (H3 _ (aA.draws HE2 _)) (aA.trans (aA.draws HE2 _)) ?_;intro w3 HE3;clear H3;go_wp2_with fail;refine p_ (H4 _ HE3) (aA.trans HE3) ?_;intro w4 HE4;clear H4;go_wp2_with fail;go_ret2;exact ⟨rfl,HE4⟩
 ·have k0:(r != 0)=true:=by simpa using c0
  by_cases c1:r<0
  ·by_cases c2:y<0
   ·have k5:decide (r<0)=true:=oT c1;have k6:decide (y<0)=true:=oT c2;have k7:(!decide (r<0))=false:=(by rw [k5];rfl);have k8:(!decide (y<0))=false:=(by rw [k6];rfl);rw [if_neg (by rw [oT c1,oT c2];simp)] at pw HFR;rw [pw.out] at H3 |-;rw [HFR.out] at H4 |-;clear pw HFR c0
    go_enter func87,ntmps87
    go_wp2_with fail;refine o_ H1 ?_;intro w1 HE1;clear H1;go_wp2_with fail;refine p_ (H2 _) (aA.trans HE1) ?_;intro w2 HE2;clear H2;go_wp2_with fail
    go_quiet (fail)
    go_wp2_with fail;refine p_ (H3 _ (aA.draws HE2 _)) (aA.trans (aA.draws HE2 _)) ?_;intro w3 HE3;clear H3;go_wp2_with fail;refine p_ (H4 _ HE3) (aA.trans HE3) ?_;intro w4 HE4;clear H4;go_wp2_with fail;go_ret2;exact ⟨rfl,HE4⟩
   ·have k5:decide (r<0)=true:=oT c1;have k6:decide (y<0)=false:=oS c2;have k7:(!decide (r<0))=false:=(by rw [k5];rfl);have k8:(!decide (y<0))=true:=(by rw [k6];rfl);rw [if_pos ⟨c0,by rw [oT c1,oS c2];simp⟩] at pw HFR;rw [pw.out] at H3 |- vP;rw [HFR.out] at H4 |- qN;clear pw HFR c0
    go_enter func87,ntmps87
    go_wp2_with fail;refine o_ H1 ?_;intro w1 HE1;clear H1;go_wp2_with fail;refine p_ (H2 _) (aA.trans HE1) ?_;intro w2 HE2;clear H2;go_wp2_with fail
    go_quiet (fail)
    go_wp2_with fail;refine p_ (H3 _ (aA.draws HE2 _)) (aA.trans (aA.draws HE2 _)) ?_;intro w3 HE3;clear H3;go_wp2_with fail;refine p_ (H4 _ HE3) (aA.trans HE3) ?_;intro w4 HE4;clear H4;go_wp2_with fail;go_ret2;exact ⟨rfl,HE4⟩
  ·by_cases c2:y<0
   ·have k5:decide (r<0)=false:=oS c1;have k6:decide (y<0)=true:=oT c2;have k7:(!decide (r<0))=true:=(by rw [k5];rfl);have k8:(!decide (y<0))=false:=(by rw [k6];rfl);rw [if_pos ⟨c0,by rw [oS c1,oT c2];simp⟩] at pw HFR;rw [pw.out] at H3 |- vP;rw [HFR.out] at H4 |- qN;clear pw HFR c0
    go_enter func87,ntmps87
    go_wp2_with fail;refine o_ H1 ?_;intro w1 HE1;clear H1;go_wp2_with fail;refine p_ (H2 _) (aA.trans HE1) ?_;intro w2 HE2;clear H2;go_wp2_with fail
    go_quiet (fail)
    go_wp2_with fail;refine p_ (H3 _ (aA.draws HE2 _)) (aA.trans (aA.draws HE2 _)) ?_;intro w3 HE3;clear H3;go_wp2_with fail;refine p_ (H4 _ HE3) (aA.trans HE3) ?_;intro w4 HE4;clear H4;go_wp2_with fail;go_ret2;exact ⟨rfl,HE4⟩
   ·have k5:decide (r<0)=false:=oS c1;have k6:decide (y<0)=false:=oS c2;have k7:(!decide (r<0))=true:=(by rw [k5];rfl);have k8:(!decide (y<0))=true:=(by rw [k6];rfl);rw [if_neg (by rw [oS c1,oS c2];simp)] at pw HFR;rw [pw.out] at H3 |-;rw [HFR.out] at H4 |-;clear pw HFR c0
    go_enter func87,ntmps87
    go_wp2_with fail;refine o_ H1 ?_;intro w1 HE1;clear H1;go_wp2_with fail;refine p_ (H2 _) (aA.trans HE1) ?_;intro w2 HE2;clear H2;go_wp2_with fail
    go_quiet (fail)
    go_wp2_with fail;refine p_ (H3 _ (aA.draws HE2 _)) (aA.trans (aA.draws HE2 _)) ?_;intro w3 HE3;clear H3;go_wp2_with fail;refine p_ (H4 _ HE3) (aA.trans HE3) ?_;intro w4 HE4;clear H4;go_wp2_with fail;go_ret2;exact ⟨rfl,HE4⟩
end Go.Proofs.YtjlkkofmojgipaaGreatDoor
