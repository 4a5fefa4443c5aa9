import Derived.Test.YtjlkkofmojgipaaGreatDoorVAQ
import Derived.Test.YtjlkkofmojgipaaGreatDoorVAF
import Derived.RegionTactic
import Derived.BigRegion
import Derived.Deep.DeepCutAuto
import Derived.Deep.RegionHeld3
import Derived.StillTail
import Derived.StillTactics
set_option linter.unusedVariables false
set_option linter.unusedSimpArgs false
set_option maxRecDepth 1000000
set_option maxHeartbeats 40000000
namespace Go.Proofs.YtjlkkofmojgipaaGreatDoor
open Go.RowKit Go.Proofs.Tryz
theorem Z46:(prog.info? 188).map (fun i=>(i.zero,i.size,i.bytes))=some (some (.slice none 0 0),1,24):=by kernel_rfl
def iA (t:Nat×Nat×Nat) (n:Nat):Value:=.slice (some ⟨t.1,t.2.1,none⟩) n t.2.2
def lI (tags:List (Nat×Nat×Nat)) (m:oe):List Value:=List.zipWith (fun t r=>iA t r.length) tags m
structure eA (w:World) (ob base:Nat) (v:Value) (tags:List (Nat×Nat×Nat)) (m:oe):Prop where
 len:tags.length=m.length
 own:w.ownsRow ob 188 1 v m.length (lI tags m)
 row:∀ (i:Nat) t r,tags[i]?=some t->m[i]?=some r->r.length<=t.2.2/\t.2.2<=maxLen/\ag w t.1 t.2.1 r/\base<=t.1/\v.ownBlock≠some t.1
 nodup:(tags.map (·.1)).Nodup
theorem eA.nil (w:World) (ob base:Nat):eA w ob base (.slice none 0 0) [] [] :=
 ⟨rfl,World.ownsRow_nil _ _ _ _,by intro i t r h;simp at h,by simp⟩
theorem eA.ext {w w':World} {ob base:Nat} {v:Value} {tags:List (Nat×Nat×Nat)} {m:oe} (h:eA w ob base v tags m) (he:aA w w'):eA w' ob base v tags m :=
 ⟨h.len,fN h.own he,fun i t r ht hr=>by
  obtain ⟨h1,h2,h3,h4,h5⟩:=h.row i t r ht hr
  exact ⟨h1,h2,h3.ext he,h4,h5⟩,h.nodup⟩
theorem eA.snoc {w w':World} {ob base:Nat} {v v':Value} {tags:List (Nat×Nat×Nat)} {m:oe} (h:eA w ob base v tags m) (t:Nat×Nat×Nat) (r:og) (qN:r.length<=t.2.2) (pX:t.2.2<=maxLen) (hR:ag w t.1 t.2.1 r) (hb:base<=t.1) (hv:v.ownBlock≠some t.1) (hn:t.1∉tags.map (·.1))
  (hown:w'.ownsRow ob 188 1 v' (m.length+1) (lI tags m++[iA t r.length])) (hg:w.grownBy w' v.ownBlock) (qF:v'.ownBlock=v.ownBlock\/∃ b,v'.ownBlock=some b/\w.heap.size<=b) :
  eA w' ob base v' (tags++[t]) (m++[r]):=by
 have pQ:∀ (s:Nat×Nat×Nat) q,ag w s.1 s.2.1 q->v.ownBlock≠some s.1->ag w' s.1 s.2.1 q/\v'.ownBlock≠some s.1:=fun s q hs vL=>by
  refine ⟨hs.same hg.size (hg.block s.1 hs.lt vL.symm),fun e=>?_⟩;rcases qF with e2 | ⟨b,e2,e3⟩
  ·exact vL (e2.symm.trans e)
  ·rw [e2] at e;cases e;have:=hs.lt;omega
 refine ⟨by simp [h.len],?_,fun i s q hs hq=>?_,?_⟩
 ·have e:lI (tags++[t]) (m++[r])=lI tags m++[iA t r.length]:=by
   unfold lI;rw [List.zipWith_append h.len];rfl
  rw [e,oV];exact hown
 ·by_cases hi:i<tags.length
  ·rw [oN hi] at hs;rw [oN (by rw [<- h.len];exact hi)] at hq;obtain ⟨h1,h2,h3,h4,h5⟩:=h.row i s q hs hq;obtain ⟨k1,k2⟩:=pQ s q h3 h5;exact ⟨h1,h2,k1,h4,k2⟩
  ·rw [oO (by omega)] at hs;rw [oO (by rw [<- h.len];omega)] at hq;have e1:i-tags.length=0:=(by have:=(oC.1 hs).1;simp at this;omega);have e2:i-m.length=0:=(by rw [<- h.len];exact e1);rw [e1] at hs;rw [e2] at hq;simp only [oQ,Option.some.injEq] at hs hq;subst hs;subst hq;obtain ⟨k1,k2⟩:=pQ t r hR hv;exact ⟨qN,pX,k1,hb,k2⟩
 ·rw [List.map_append,List.nodup_append];refine ⟨h.nodup,by simp,?_⟩;intro a ha b hb2 e;simp only [List.map_cons,List.map_nil,List.mem_singleton] at hb2;subst e;subst hb2;exact hn ha
theorem eA.mat {w:World} {ob base:Nat} {g cap:Nat} {tags:List (Nat×Nat×Nat)} {m:oe} (h:eA w ob base (.slice (some ⟨g,0,none⟩) m.length cap) tags m) (hob:base<=ob) :
  bM w g tags m/\m.length<=cap/\cap<=maxLen/\∀ b,dB g tags b->base<=b:=by
 have hc:=h.own.cells (g:=g) (by simp [Value.ownBlock]);have hf:=fun j=>h.own.frozenAt j;rcases h.own.2 with ⟨hv,_⟩ | ⟨g',cap',cur,hv,hb,hg,h1,h2,h3,h4⟩
 ·simp at hv
 ·simp only [Value.slice.injEq,Option.some.injEq,Addr.mk.injEq] at hv;obtain ⟨⟨rfl,-,-⟩,-,rfl⟩:=hv;refine ⟨⟨h.len,(Array.getElem?_eq_some_iff.1 hg).1,fun j=>hf j,fun i t r ht hr=>?_,?_⟩,h1,h2,fun b hb2=>?_⟩
  ·obtain ⟨k1,k2,k3,k4,k5⟩:=h.row i t r ht hr;refine ⟨?_,k1,k2,k3⟩;have:=hc i (iA t r.length) (by unfold lI;rw [List.getElem?_zipWith,ht,hr]);rw [show (⟨g,0,none⟩:Addr).add i=⟨g,i,none⟩ by unfold Addr.add;split <;> simp_all] at this;exact this
  ·rw [List.nodup_cons];refine ⟨fun hm=>?_,h.nodup⟩;obtain ⟨t,ht,rfl⟩:=List.mem_map.1 hm;obtain ⟨i,hi⟩:=List.getElem?_of_mem ht;have hl:i<m.length:=(by rw [<- h.len];exact (oC.1 hi).1);exact (h.row i t m[i] hi (oB hl)).2.2.2.2 rfl
  ·rcases List.mem_cons.1 hb2 with rfl | hb2;·exact oJ hob hb
   ·obtain ⟨t,ht,rfl⟩:=List.mem_map.1 hb2;obtain ⟨i,hi⟩:=List.getElem?_of_mem ht;have hl:i<m.length:=(by rw [<- h.len];exact (oC.1 hi).1);exact (h.row i t m[i] hi (oB hl)).2.2.2.1
theorem Z2_ (w:World) {ops:Array Oper} {rest:List Oper} {o:Oper} {a:Act} {Q:Exit->Act->World->Prop} (pq:o.guard=none)
  (s x:Operand) (ho:o.op=Op.call { callee:=Callee.builtin Builtin.append,args:=#[s,x],argTypes:=#[142,142] }) (ob base:Nat)
  (v:Value) (tags:List (Nat×Nat×Nat)) (m:oe) (t:Nat×Nat×Nat) (r:og) (u:Array Value) (T:TypeId) (hs:a.eval s=v) (hB:eA w ob base v tags m)
  (hx:a.eval x=.slice (some ⟨w.heap.size,0,none⟩) 1 1) (hu:u=#[iA t r.length]) (qN:r.length<=t.2.2) (pX:t.2.2<=maxLen) (hR:ag w t.1 t.2.1 r) (hb:base<=t.1) (hv:v.ownBlock≠some t.1) (hn:t.1∉tags.map (·.1))
  (hlen:m.length<1000000) (o6:ob<=w.heap.size)
  (h:∀ v' w',eA w' ob base v' (tags++[t]) (m++[r])->Below ob w w'->Hid (∃ g c,v'=.slice (some ⟨g,0,none⟩) (m.length+1) c)->wpList prog ops Q rest (a.put o.dst v') w') :
  wpList prog ops Q (o::rest) a (w.alloc (.cells u T)):=by
 refine wpList_plain pq fun K hK=>?_;subst hu;obtain ⟨i0,hi,hz,o9,hby⟩:=info_parts Z46;have pU:∀ j,(⟨w.heap.size,0,none⟩:Addr).add j=⟨w.heap.size,j,none⟩:=by intro j;unfold Addr.add;split <;> simp_all
 have hE:aA w (w.alloc (.cells #[iA t r.length] T)):=aA.alloc _ _;refine ig (w.alloc (.cells #[iA t r.length] T)) s x 142 ho ob 188 i0 (.slice none 0 0) 1 24 underlying142 hi hz o9 hby rfl (by decide) v m.length (lI tags m) hs (fN hB.own hE) ⟨w.heap.size,0,none⟩ 1 1 [iA t r.length] hx rfl ?_ ?_ ?_ ?_ ?_ ?_
 ·intro j q hq;rw [pU,World.cell?_alloc_new];simpa using hq
 ·intro u hu;rw [List.mem_singleton.1 hu];rfl
 ·unfold maxLen;omega
 ·omega
 ·simp;omega
 ·intro v' w' hown oo _ qF
  have hLB:=(hB.ext hE).snoc t r qN pX (hR.ext hE) hb hv hn hown oo (by
   rcases qF with h1 | h1;·exact .inl h1
   ·exact .inr ⟨_,h1,oK _⟩)
  refine hK _ _ (h v' w' hLB ?_ ?_)
  ·have pj:w.grownBy w' v.ownBlock:=gA (hE.grown _) oo;refine ⟨pj.os,pj.tape,pj.output,pj.size,fun b hb2=>pj.block b (by omega) ?_⟩;intro e;have:=(hB.own.lt b e.symm).1;omega
  ·obtain ⟨g,c,tz,-⟩:=gF hown (by omega);exact ⟨g,c,tz⟩
theorem j8_ (xss:oe) (v:Value) (w:World) (h:bN w v xss) (hlen:xss.length<=1000) (hrow:∀ xs∈xss,xs.length<=1000) (ht:ae w) :
  Calls prog 100 #[v] w fun e w'=>∃ v' tags,e=.returned v'/\eA w' w.heap.size w.heap.size v' tags xss/\(v'=.slice none 0 0/\xss=[]\/∃ g c,v'=.slice (some ⟨g,0,none⟩) xss.length c)/\aA w w':=by
 obtain ⟨a,c,rfl,h1,h2,-,hc⟩:=bc.open h;have HC:=oA hc;have HT:=oA ht;have HROW:=oA hrow;unfold maxLen at h2;clear h hc ht hrow
 go_enter func100,ntmps100
 go_wp2_with fail
 go_loopw [3,8] (fun out t wr=>∃ (j:Nat) (tags:List (Nat×Nat×Nat)),j<=xss.length/\t=.int .i64 j/\aA w wr/\Hid (eA wr w.heap.size w.heap.size out tags (xss.take j))/\Hid (out=.slice none 0 0/\j=0\/∃ g c,out=.slice (some ⟨g,0,none⟩) j c)) (fun _ t _=>xss.length-(intOf t).toNat)
 case atStart=>exact ⟨0,[],by omega,rfl,aA.refl _,eA.nil _ _ _,.inl ⟨rfl,rfl⟩⟩
 case round =>
  obtain ⟨j,tags,hj,rfl,hE,HB,HV⟩:=hrel;obtain ⟨wo,rfl⟩:∃ wo:World,wo=wr:=⟨_,rfl⟩;have HE:=oA hE;by_cases hlt:j<xss.length
  ·obtain ⟨b,off,rfl,hb,hcell⟩:=HC (by intro e;simp [e] at hlt);obtain ⟨xs,hx⟩:∃ x,xss[j]?=some x:=⟨xss[j],oB hlt⟩;obtain ⟨vr,sn,sJ⟩:=hcell j xs hx;have g1:=hE.cell sJ;obtain ⟨ar,cr,rfl,-,-,-,-,-⟩:=bL.open sn;have HL:=oA (C2_ xs _ wo (sn.ext hE) (HROW xs (oE hx)) (HT.ext hE));have HN:Hid (xss.take (j+1)=xss.take j++[xs]):=(by unfold Hid;rw [oH,hx];rfl);have HJ:Hid ((xss.take j).length=j):=(by unfold Hid;rw [oG];omega);clear hcell hx sn sJ hE;go_wp2_with fail;refine HL.mono ?_;rintro e w2 ⟨g,cg,rfl,hR,hg1,vv,tJ,hE2⟩;have HB2:=oA (HB.ext hE2);have HE2:=oA (aA.trans HE hE2);have hszr:=HE2.size;have hszw:=HE.size;have HR:=oA hR;have hv1:u3.ownBlock≠some g:=fun e=>by have:=(HB.own.lt g e).2;omega
   have qB:g∉tags.map (·.1):=fun hm=>by
    obtain ⟨t,ht,e⟩:=List.mem_map.1 hm;obtain ⟨i,hi⟩:=List.getElem?_of_mem ht;have hl:i<(xss.take j).length:=(by rw [<- HB.out.len];exact (oC.1 hi).1);have:=(HB.row i t _ hi (oB hl)).2.2.1.lt;omega
   have HV1:=oA hv1;have HN1:=oA qB;clear hE2 HL hR hv1 qB;go_wp2_with (at_builtin;go_must (refine Z2_ _ rfl _ _ rfl w.heap.size w.heap.size u3 tags (xss.take j) (g,0,cg) xs #[.slice (some ⟨g,0,none⟩) xs.length cg] 188 rfl HB2 rfl rfl vv tJ HR ?e1 HV1 HN1 ?e2 hszr ?_))
   case e1=>show w.heap.size<=g;omega
   case e2=>rw [HJ.out];omega
   intro v' w5 o8 hb5 vg;rw [<- HN.out] at o8;have HB5:=oA o8;have HV5:=vg;have HX5:=oA (Below.trans HE2 hb5);clear o8 hb5 vg;go_wp2_with fail;go_roundw
   case rel=>exact ⟨j+1,_,by omega,by go_num,HX5,HB5,.inr HV5⟩
   case measure=>simp [intOf];omega
  ·obtain rfl:j=xss.length:=(by omega);have hB:=HB.out;rw [List.take_length] at hB;have HBF:=oA hB;have L1:Hid (u3=.slice none 0 0/\xss=[]\/∃ g c,u3=.slice (some ⟨g,0,none⟩) xss.length c):=by
    rcases HV.out with ⟨h1,h2⟩ | h1;·exact .inl ⟨h1,List.eq_nil_of_length_eq_zero h2⟩
    ·exact .inr h1
   clear hB HB HV hE;go_wp2_with fail;go_ret;exact ⟨_,tags,rfl,HBF,L1,HE⟩
def Z71 (w:World) (u:List Value) (x:og):Prop:=∃ v,u=[v]/\bL w v x
theorem nt {P:Program} {fn:Func} {p u:Tmp} {ty:TypeId} (h:fn.results=#[.cell p ty,.tmp u]) (tmps:Array Value) (w:World) (g:Nat) (t:TypeId) (cs:Array Value) (fr:Nat×Nat) (d:TypeDesc)
  (hp:tmps.getD p undef=.pointer (some ⟨g,0,none⟩)) (hg:w.heap[g]?=some (.cells cs t fr))
  (hu:P.underlying ty=some d) (hd:(match d with | .struct _ | .array _ _=>true | _=>false)=true) (hi:(P.info? ty).map (·.size)=some cs.size) :
  (results fn tmps).run P w=.ok (.tuple #[.agg cs,tmps.getD u undef]) w:=by
 rw [Go.results_cell_tmp h,hp];simp [asAddr,run_loadVar_row w g t ty cs fr d hg hu hd hi,Result.andThen]
def fu (cols:Nat) (m:oe) (w:World) (e:Ending) (w':World):Prop :=
 (if (m.all fun r=>r.all eI)=true then ∃ v,e=.returned (.tuple #[.agg #[.int .i64 cols,v],.int .i64 0])/\bQ w' (·<w.heap.size) (fun W=>bN W v m) else e=.returned (.tuple #[.agg #[.int .i64 0,.slice none 0 0],.int .i64 4]))/\aA w w'
theorem Z0K (cols:Nat) (m:oe) (ad:Option Addr) (cap:Nat) (w:World) (hM:m=[]\/∃ g0 tags,ad=some ⟨g0,0,none⟩/\bM w g0 tags m) (hsm:∀ r∈m,r.all bp=true) (hl:∀ r∈m,r.length<=1000)
  (pk:m.length<=cap) (pN:cap<=maxLen) (hm:m.length<=1000) (hc:cols<=1000) (pD:fQ w) :
  Calls prog 102 #[.slice ad m.length cap,.int .i64 cols] w (fu cols m w):=by
 have HM:=oA hM;have HSM:=oA hsm;have HLE:=oA hl;have HLIB:=oA pD;unfold maxLen at pN;clear hM hsm hl pD
 go_enter func102,ntmps102
 go_wp2_with fail;have tu:aA w ((w.alloc (Obj.cells #[Value.int IntKind.i64 0,Value.slice none 0 0] 85)).alloc (Obj.cells #[Value.int IntKind.i64 cols,Value.slice none 0 0] 85)):=(aA.alloc _ _).trans (aA.alloc _ _);have hbk0:=fC (w.alloc (Obj.cells #[Value.int IntKind.i64 0,Value.slice none 0 0] 85)) #[Value.int IntKind.i64 cols,Value.slice none 0 0] 85;have hbk1:=aJ (fC w #[Value.int IntKind.i64 0,Value.slice none 0 0] 85) (aA.alloc (w.alloc (Obj.cells #[Value.int IntKind.i64 0,Value.slice none 0 0] 85)) (Obj.cells #[Value.int IntKind.i64 cols,Value.slice none 0 0] 85));have Ec:((w.alloc (Obj.cells #[Value.int IntKind.i64 0,Value.slice none 0 0] 85)).alloc (Obj.cells #[Value.int IntKind.i64 cols,Value.slice none 0 0] 85)).heap.size=w.heap.size+2:=by simp
 rw [show (w.alloc (Obj.cells #[Value.int IntKind.i64 0,Value.slice none 0 0] 85)).heap.size=w.heap.size+1 by simp] at hbk0;generalize ((w.alloc (Obj.cells #[Value.int IntKind.i64 0,Value.slice none 0 0] 85)).alloc (Obj.cells #[Value.int IntKind.i64 cols,Value.slice none 0 0] 85))=W0 at *
 have HB0:=oA hbk0;have HB1:=oA hbk1
 go_loopw [15] (fun t wr=>∃ (j:Nat) (S:Nat->Prop) (v:Value),j<=m.length/\t=.int .i64 j/\aA w wr/\Hid (jL S 0 wr)/\Hid (∀ b,b<w.heap.size+2->S b)/\Hid (bj wr S (w.heap.size+2) 27 1 v Z71 (m.take j))/\Hid (wr.heap[w.heap.size+1]?=some (.cells #[.int .i64 cols,v] 85 (0,0)))/\Hid (wr.heap[w.heap.size]?=some (.cells #[.int .i64 0,.slice none 0 0] 85 (0,0)))/\Hid ((m.take j).all (fun r=>r.all eI)=true)) (fun t _=>m.length-(intOf t).toNat)
 case atStart=>exact ⟨0,fun b=>b<w.heap.size+2,_,by omega,rfl,tu,fun b hb=>by rw [Ec];exact ⟨Nat.zero_le _,hb⟩,fun b hb=>hb,bj.nil _ _ _ _ _ _,HB0,HB1,rfl⟩
 case round =>
  obtain ⟨j,S,v,hj,rfl,hE,HOK,HSB,sQ,HK,HK1,Bp⟩:=hrel;obtain ⟨wo,rfl⟩:∃ wo:World,wo=wr:=⟨_,rfl⟩;have HE:=oA hE;by_cases hlt:j<m.length
  ·obtain ⟨g0,tags,rfl,qT⟩:∃ g0 tags,ad=some ⟨g0,0,none⟩/\bM w g0 tags m:=by
    rcases HM.out with h0 | h0;·rw [h0] at hlt;simp at hlt
    ·exact h0
   obtain ⟨t,BP,c1,c2,c3,c4,c5⟩:=(qT.ext hE).get j hlt;clear qT;have rI:aD m j∈m:=oE (eE hlt);have HSH:=oA (Z3d (aD m j) t.1 t.2.1 t.2.2 wo c4 c2 c3 (HLE _ rI) (HSM _ rI) (HLIB.ext HE));have HN:Hid (m.take (j+1)=m.take j++[aD m j]):=(by unfold Hid;rw [oH,eE hlt];rfl);have HJ:Hid ((m.take j).length<1000000):=(by unfold Hid;rw [oG];omega);have HME:=oA rI;obtain ⟨xr,px⟩:=oZ (aD m j);rw [px] at c1 HSH HN HME;unfold maxLen at c3;clear BP c2 c4 c5 px hE rI;by_cases hf:xr.all eI=true
   ·go_wp2_with fail;refine HSH.mono ?_;rintro e w2 yd;unfold kO at yd;rw [if_pos hf] at yd;obtain ⟨ar,cr,rfl,hI,hO,hE2⟩:=yd;have zu:Hid (bQ w2 S fun w=>Z71 w [.slice ar xr.length cr] xr):=(bQ.owns hO (fun k hk hs=>by have:=(hO.lt k hk).1;have:=(HOK k hs).2;omega)).mono (fun w h=>⟨_,rfl,bL.of_owns h (fun x hx=>by have:=(kY x).1 (List.all_eq_true.1 hf x hx);omega)⟩);have HB2:=oA (sQ.ext hE2);have HK2:=oA (aJ HK hE2);have HK12:=oA (aJ HK1 hE2);have HOK2:=oA (HOK.grow hE2.size);have HE2:=oA (aA.trans HE hE2);have g1:=aO HK2 1;have g2:=cD HK2 1;simp only [oR,oQ,oP] at g1;clear hI hO hE2 HSH sQ HK HK1 HOK;have hs2:w.heap.size+2<=w2.heap.size:=by have:=dr HK2;omega
    go_wp2_with (at_builtin;go_must (refine V7_ _ rfl _ _ 23 rfl S (w.heap.size+2) 27 (.slice none 0 0) 1 24 underlying23 Z5D rfl (by decide) v Z71 (m.take j) xr #[.slice ar xr.length cr] 27 rfl HB2 _ rfl rfl rfl ?a1 zu HJ (by decide) hs2 0 (Nat.zero_le _) HOK2 ?_))
    case a1=>simp [Value.oneCell']
    intro v' w5 S5 CM C4 vE o8 pS hb5 qu B9;obtain ⟨gv,cv,rfl,-,-,-,-⟩:=o8.shape (by simp);have hk5:=jo HK2 pS (HB2.neBlock HK2 (by decide));have HK15:=oA ((hb5.block w.heap.size (by omega)).trans HK12);have g15:=aO hk5 1;have g25:=cD hk5 1;simp only [oR,oQ,oP] at g15;have HK5:=oA hk5;have HX5:=oA (Below.trans HE2 (Below.mono hb5 (by omega)));have HOK5:=oA CM;have DP:Hid (∀ b,b<w.heap.size+2->S5 b):=fun b hb=>C4 _ (HSB b hb);rw [<- HN.out,show (m.take (j+1)).length=j+1 by rw [oG];omega] at o8;have HB5:=oA o8;clear CM C4 vE o8 B9 hk5 g1 g2;go_wp2_with fail;go_roundw
    case rel=>exact ⟨j+1,S5,.slice (some ⟨gv,0,none⟩) (j+1) cv,by omega,by go_num,HX5.setCell (p:=⟨w.heap.size+1,1,none⟩) (by simp) _,HOK5.grow (by simp [World.setCell]),DP,HB5.store (DP _ (by omega)) (HB5.neBlock HK5 (by decide)),en HK5 1 _,(Z1_ _ _ _ _ _ (by omega)).trans HK15,by unfold Hid;rw [HN.out,List.all_append,Bp.out];simp [hf]⟩
    case measure=>simp [intOf];omega
   ·have HA:Hid (¬ (m.all fun r=>r.all eI)=true):=fun h=>hf (List.all_eq_true.1 h xr HME);have q0:=aO HK1 0;have q1:=aO HK1 1;have q2:=cD HK1 0;have q3:=cD HK1 1;simp only [oR,oQ,oP] at q0 q1;go_wp2_with fail;refine HSH.mono ?_;rintro e w2 yd;unfold kO at yd;rw [if_neg hf] at yd;obtain ⟨rfl,hE2⟩:=yd;have hk2:=aJ HK1 hE2;have q0:=aO hk2 0;have q1:=aO hk2 1;have q2:=cD hk2 0;have q3:=cD hk2 1;simp only [oR,oQ,oP] at q0 q1;have HE2:=oA (aA.trans HE hE2);clear hE2 HSH;go_wp2_with fail;have hkA:=en (en hk2 0 (.int .i64 0)) 1 (.slice none 0 0);have r0:=aO hkA 0;have r1:=aO hkA 1;simp only [oR,oQ,oP,List.setIfInBounds_toArray,List.set_cons_zero,List.set_cons_succ] at r0 r1;have HX2:Hid (aA w ((w2.setCell ⟨w.heap.size,0,none⟩ (.int .i64 0)).setCell ⟨w.heap.size,1,none⟩ (.slice none 0 0))):=(HE2.setCell (p:=⟨w.heap.size,0,none⟩) (by simp) _).setCell (p:=⟨w.heap.size,1,none⟩) (by simp) _;refine bodyPost_ret (nt (by rfl) _ _ w.heap.size 85 #[.int .i64 0,.slice none 0 0] (0,0) _ (by rfl) hkA underlying85 (by rfl) (by kernel_rfl)) (by rfl) ?_;unfold fu;rw [if_neg HA.out];exact ⟨rfl,HX2⟩
  ·obtain rfl:j=m.length:=(by omega);obtain ⟨av,nv,cv,rfl⟩:∃ a n c,v=.slice a n c:=by
    obtain ⟨_,us,_,_,h3,_⟩:=sQ.out;rcases h3.2 with ⟨hv,_⟩ | ⟨g,c,_,hv,_⟩
    ·exact ⟨_,_,_,hv⟩
    ·exact ⟨_,_,_,hv⟩
   have q0:=aO HK1 0;have q1:=aO HK1 1;have q2:=cD HK1 0;have q3:=cD HK1 1;have o0:=aO HK 0;have o1:=aO HK 1;simp only [oR,oQ,oP] at q0 q1 o0 o1;clear hE;go_wp2_with fail;have hkA:=en (en HK1 0 (.int .i64 cols)) 1 (.slice av nv cv);simp only [List.setIfInBounds_toArray,List.set_cons_zero,List.set_cons_succ] at hkA;refine bodyPost_ret (nt (by rfl) _ _ w.heap.size 85 #[.int .i64 cols,.slice av nv cv] (0,0) _ (by rfl) hkA underlying85 (by rfl) (by kernel_rfl)) (by rfl) ?_;have hF:=Bp.out;have hB:=sQ.out;rw [List.take_length] at hF hB;unfold fu;rw [if_pos hF];refine ⟨⟨_,rfl,?_⟩,(HE.setCell (p:=⟨w.heap.size,0,none⟩) (by simp) _).setCell (p:=⟨w.heap.size,1,none⟩) (by simp) _⟩;have hne:=hB.neBlock HK1 (by decide);exact ((hB.store (i:=0) (x:=.int .i64 cols) (HSB _ (by omega)) hne).store (i:=1) (x:=.slice av nv cv) (HSB _ (by omega)) hne).keeps fun b hb=>⟨HSB b (by omega),by omega⟩
theorem bM.take {w:World} {g0:Nat} {tags:List (Nat×Nat×Nat)} {m:oe} (h:bM w g0 tags m) (d:Nat):bM w g0 (tags.take d) (m.take d):=by
 refine ⟨by rw [oG,oG,h.len],h.lt,h.free,fun i t r ht hr=>?_,?_⟩
 ·have hi:i<d:=by
   have:=(oC.1 ht).1;rw [oG] at this;omega
  rw [List.getElem?_take_of_lt hi] at ht hr;exact h.row i t r ht hr
 ·have hn:=List.nodup_cons.1 h.nodup;rw [List.nodup_cons];have hs:((tags.take d).map (·.1)).Sublist (tags.map (·.1)):=(List.take_sublist d tags).map _;exact ⟨fun hm=>hn.1 (hs.subset hm),hn.2.sublist hs⟩
theorem ag.drop {w:World} {g o:Nat} {xs:og} (h:ag w g o xs) (k:Nat):ag w g (o+k) (xs.drop k) :=
 ⟨h.lt,fun j x hx=>by
  rw [oU] at hx
  rw [Nat.add_assoc];exact h.cell (k+j) x hx,h.free⟩
def jQ (k:Nat) (t:Nat×Nat×Nat):Nat×Nat×Nat:=(t.1,t.2.1+k,t.2.2-k)
theorem u9_ (k:Nat) (m:oe) (r:og):dR k (m++[r])=dR k m++(if (k:Int)<=fG r then [r.drop k] else []):=by
 unfold dR;rw [List.filter_append,List.map_append];congr 1;by_cases h:(k:Int)<=fG r <;> simp [h]
def de (w:World) (g0:Nat) (om tags:List (Nat×Nat×Nat)) (m:oe):Prop :=
 bM w g0 tags m/\(∀ b,b∈tags.map (·.1)->b∈om.map (·.1))
def mn:Option Nat->Value
 | none=>.int .i64 (-1)
 | some a=>.int .i64 a
theorem W5_ (c d:Nat) (m:oe) (k:Nat):an c d m (k+1)=match an c d m k with
  | none=>if aC m (d+k) c=0 then none else some (d+k)
  | some a=>if aC m (d+k) c≠0/\(aC m (d+k) c).natAbs<(aC m a c).natAbs then some (d+k) else some a:=rfl
theorem Z0d {c d i:Nat} {m:oe} (hi:d<=i) (h:aC m i c=0):an c d m (i+1-d)=an c d m (i-d):=by
 rw [show i+1-d=(i-d)+1 by omega,W5_,show d+(i-d)=i by omega];cases an c d m (i-d) with
 | none=>simp [h]
 | some a=>simp [h]
theorem l6_ {c d i:Nat} {m:oe} (hi:d<=i) (h:aC m i c≠0) (hb:an c d m (i-d)=none):an c d m (i+1-d)=some i:=by
 rw [show i+1-d=(i-d)+1 by omega,W5_,show d+(i-d)=i by omega,hb];simp [h]
theorem Z0c {c d i a:Nat} {m:oe} (hi:d<=i) (h:aC m i c≠0) (hb:an c d m (i-d)=some a):an c d m (i+1-d)=if (aC m i c).natAbs<(aC m a c).natAbs then some i else some a:=by
 rw [show i+1-d=(i-d)+1 by omega,W5_,show d+(i-d)=i by omega,hb];simp only;by_cases hl:(aC m i c).natAbs<(aC m a c).natAbs;·rw [if_pos ⟨h,hl⟩,if_pos hl]
 ·rw [if_neg (fun x=>hl x.2),if_neg hl]
theorem z0_ {c d:Nat} {m:oe}:∀ (k a:Nat),an c d m k=some a->d<=a/\a<d+k/\aC m a c≠0
 | 0,a,h=>by simp [an] at h
 | k+1,a,h=>by
  rw [W5_] at h;cases hb:an c d m k with
  | none =>
   rw [hb] at h;simp only at h
   split at h
   ·cases h
   ·rename_i hne;obtain rfl:=oM h;exact ⟨by omega,by omega,hne⟩
  | some b =>
   rw [hb] at h;simp only at h;have ih:=z0_ k b hb
   split at h
   ·rename_i hc;obtain rfl:=oM h;exact ⟨by omega,by omega,hc.1⟩
   ·obtain rfl:=oM h;exact ⟨ih.1,by omega,ih.2.2⟩
theorem de.elem {w:World} {g0:Nat} {om tags:List (Nat×Nat×Nat)} {m:oe} (h:de w g0 om tags m) {n:Nat} (hok:bH n m=true) (i c:Nat) (hi:i<m.length) (hc:c<n) :
  ∃ t:Nat×Nat×Nat,tags[i]?=some t/\w.cell? ⟨g0,i,none⟩=some (.slice (some ⟨t.1,t.2.1,none⟩) n t.2.2)/\n<=t.2.2/\t.2.2<=maxLen/\w.cell? ⟨t.1,t.2.1+c,none⟩=some (.string (aB (aC m i c)))/\ag w t.1 t.2.1 (aD m i)/\t.1≠g0/\Sz (aC m i c):=by
 obtain ⟨t,ht,h1,h2,h3,h4,h5⟩:=h.1.get i hi;obtain ⟨hl,hs⟩:=eZ hok i hi;have hcl:c<(aD m i).length:=by omega
 have e:(aD m i)[c]?=some (aC m i c):=by
  unfold aC;rw [oD,oB hcl];rfl
 rw [hl] at h1 h2;exact ⟨t,ht,h1,h2,h3,h4.cell c _ e,h4,h5,ec (List.all_eq_true.1 hs _ (oE e))⟩
theorem de.ext {w w':World} {g0:Nat} {om tags:List (Nat×Nat×Nat)} {m:oe} (h:de w g0 om tags m) (he:aA w w'):de w' g0 om tags m:=⟨h.1.ext he,h.2⟩
theorem de.grownRow {w w':World} {g0:Nat} {om tags:List (Nat×Nat×Nat)} {m:oe} (h:de w g0 om tags m) (i:Nat) (hi:i<m.length) (t:Nat×Nat×Nat) (ht:tags[i]?=some t) (r:og) (hr:r.length=(aD m i).length) (hg:aG (·=t.1) w w') (hR:ag w' t.1 t.2.1 r):de w' g0 om tags (m.set i r) :=
 ⟨h.1.setRow i hi t ht r hr hg hR,h.2⟩
theorem de.inb {w:World} {g0:Nat} {om tags:List (Nat×Nat×Nat)} {m:oe} (h:de w g0 om tags m) {i:Nat} {t:Nat×Nat×Nat} (ht:tags[i]?=some t):dB g0 om t.1 :=
 List.mem_cons_of_mem _ (h.2 t.1 (List.mem_map.2 ⟨t,oE ht,rfl⟩))
theorem ke {m:oe} {i c:Nat} (hc:c<(aD m i).length):(aD m i)[c]?=some (aC m i c):=by
 unfold aC;rw [oD,oB hc];rfl
theorem Z5P {n:Nat} {m:oe} (h:bH n m=true) (i:Nat) (r:og) (h1:r.length=n) (h2:r.all bp=true):bH n (m.set i r)=true:=by
 unfold bH at h |-;rw [List.all_eq_true] at h |-;intro x hx;rcases List.mem_or_eq_of_mem_set hx with hx | hx;·exact h x hx
 ·rw [hx,Bool.and_eq_true,decide_eq_true_iff];exact ⟨h1,h2⟩
theorem Z5L {r:og} (h:r.all bp=true):(dA r).all bp=true:=by
 unfold dA;rw [List.all_map,List.all_eq_true];rw [List.all_eq_true] at h;intro x hx;have:=(mQ x).1 (h x hx);show bp (-x)=true;rw [mQ,Int.natAbs_neg];exact this
theorem Z3x {c d:Nat} {m m3:oe} {p:Bool} (h:(match cR c d m d with | none=>none | some m4=>some (m4,true))=some (m3,p)):∃ z,cR c d m d=some z/\m3=z/\p=true:=by
 cases hu:cR c d m d with
 | none=>rw [hu] at h;cases h
 | some z =>
  rw [hu] at h;simp only [Option.some.injEq,Prod.mk.injEq] at h;exact ⟨z,rfl,h.1.symm,h.2.symm⟩
theorem Z6a (x y:Int):decide (fD (x.natAbs:Int) (y.natAbs:Int)<0)=decide (x.natAbs<y.natAbs):=by
 unfold fD;by_cases h:x.natAbs<y.natAbs;·rw [if_pos (by omega),oT h];rfl
 ·rw [if_neg (by omega),oS h];split <;> rfl
theorem Z3i {x:Int} (h:Sz x):(aB x).size<=10000000000:=by have:=h.size;omega
theorem Z57 {x:Int} (h:Sz x):Sz (x.natAbs:Int):=h.natAbs
theorem y5_ (n F cols:Nat) (m:oe) (tags:List (Nat×Nat×Nat)) (g0 cap base:Nat) (w:World) (R:oe×Nat) (hM:bM w g0 tags m) (hok:b9 n F cols 0 0 m=some R)
  (pk:m.length<=cap) (pN:cap<=maxLen) (zc:cols<=n) (xg:n<=1000000) (ht:ae w) (hb:4<base) (hg:∀ b,dB g0 tags b->base<=b) (rP:base<=w.heap.size) :
  Calls prog 101 #[.slice (some ⟨g0,0,none⟩) m.length cap,.int .i64 cols] w fun e w'=>∃ tags',e=.returned (.slice (some ⟨g0,0,none⟩) R.2 cap)/\de w' g0 tags tags' R.1/\R.1.length=m.length/\R.2<=m.length/\aG (dB g0 tags) w w':=by
 have HM:=oA hM;have HOK:=oA hok;have HT:=oA ht;have HB:=oA hb;have HGB:=oA hg;unfold maxLen at pN;obtain ⟨L,hL⟩:=oZ m.length;rw [hL] at pk |-;have HL:=oA hL;clear hM hok ht hb hg hL
 go_enter func101,ntmps101
 go_wp2_with fail
 go_loopw [5,6] (fun sd sc wr=>∃ (c d:Nat) (m1:oe) (o4:List (Nat×Nat×Nat)),c<=cols/\d<=L/\sc=.int .i64 c/\sd=.int .i64 d/\aG (dB g0 tags) w wr/\Hid (de wr g0 tags o4 m1)/\Hid (m1.length=L)/\Hid (b9 n F (cols-c) c d m1=some R)) (fun _ sc _=>cols-(intOf sc).toNat)
 case atStart=>exact ⟨0,0,m,tags,by omega,by omega,rfl,rfl,aG.refl _ _,⟨HM,fun b h=>h⟩,HL,HOK⟩
 case round =>
  obtain ⟨c,d,m1,o4,hc,hd,rfl,rfl,hG,HFA,HL1,HC⟩:=hrel;obtain ⟨wo,rfl⟩:∃ wo:World,wo=wr:=⟨_,rfl⟩;by_cases hlt:c<cols/\d<L
  ·obtain ⟨zX,qw⟩:=hlt;obtain ⟨q,hq⟩:∃ q,cols-c=q+1:=⟨cols-c-1,by omega⟩;have hC:=HC.out;rw [hq] at hC;unfold b9 at hC;rw [if_pos (by rw [HL1.out];exact qw)] at hC;cases hsw:dI n c d F m1 with
   | none=>rw [hsw] at hC;cases hC
   | some r =>
   obtain ⟨m3,p⟩:=r;rw [hsw] at hC;have HSW:=oA hsw;have HC2:Hid (b9 n F q (c+1) (if p then d+1 else d) m3=some R):=hC;have HQ:=oA hq;have s6:c<n:=(by omega);clear hsw hC hq HC;go_wp2_with fail
   go_loopg [5] F (fun f sd wr=>∃ (m2:oe) (pC:List (Nat×Nat×Nat)),sd=.int .i64 d/\aG (dB g0 tags) w wr/\Hid (de wr g0 tags pC m2)/\Hid (m2.length=L)/\Hid (dI n c d f m2=some (m3,p)))
   case atStart=>exact ⟨m1,o4,rfl,hG,HFA,HL1,HSW⟩
   case round =>
    clear HFA HL1 HSW hG;obtain ⟨m2,pC,rfl,hG,HFA,HL2,HSW⟩:=hrel;obtain ⟨w2,rfl⟩:∃ w2:World,w2=wr:=⟨_,rfl⟩;cases gk with
    | zero=>exact absurd HSW.out (by unfold dI;simp)
    | succ f =>
    have hS:=HSW.out;unfold dI at hS;by_cases sV:bH n m2=true
    ·rw [if_pos sV,HL2.out] at hS;have HOKM:=oA sV;have HS:=oA hS;clear hS sV HSW;go_wp2_with fail
     go_loopw [7,8] (fun sa si wr=>∃ i:Nat,d<=i/\i<=L/\si=.int .i64 i/\aA w2 wr/\Hid (sa=mn (an c d m2 (i-d)))) (fun _ si _=>L-(intOf si).toNat)
     case atStart=>exact ⟨d,by omega,by omega,rfl,aA.refl _,by rw [Nat.sub_self];rfl⟩
     case round =>
      obtain ⟨i,rm,FL,rfl,hE,HA⟩:=hrel;obtain ⟨w3,rfl⟩:∃ w3:World,w3=wr:=⟨_,rfl⟩;have HA0:=HA;have hA:=HA.out;clear HA;by_cases hil:i<L
      ·as_aux_lemma =>
       obtain ⟨t,ht,k1,k2,k3,k4,k5,k6,k7⟩:=de.elem (HFA.ext hE) HOKM i c (by rw [HL2.out];exact hil) s6;unfold maxLen at k3;have hz:=fV (aC m2 i c);by_cases he:aC m2 i c=0
       ·rw [oT he] at hz;have HN:Hid (u7=mn (an c d m2 (i+1-d))):=(by unfold Hid;rw [Z0d rm he];exact hA);have HE:=oA hE;obtain ⟨x,hx⟩:=oZ (aC m2 i c);rw [hx] at k4 hz;clear ht k5 k6 k7 hA he hx hE;go_wp2_with fail
        go_quiet (fail)
        go_wp2_with fail;go_roundw
        case rel=>exact ⟨i+1,by omega,by omega,by go_num,aA.draws HE _,HN⟩
        case measure=>simp [intOf];omega
       ·rw [oS he] at hz;cases py:an c d m2 (i-d) with
        | none =>
         rw [py] at hA;obtain rfl:u7=.int .i64 (-1):=hA;have HN:Hid (Value.int .i64 (i:Int)=mn (an c d m2 (i+1-d))):=(by unfold Hid;rw [l6_ rm he py];rfl);have HE:=oA hE;obtain ⟨x,hx⟩:=oZ (aC m2 i c);rw [hx] at k4 hz;clear ht k5 k6 k7 he hx hE py;go_wp2_with fail
         go_quiet (fail)
         go_wp2_with fail;go_roundw
         case rel=>exact ⟨i+1,by omega,by omega,by go_num,aA.draws HE _,HN⟩
         case measure=>simp [intOf];omega
        | some a =>
         rw [py] at hA;obtain rfl:u7=.int .i64 a:=hA;obtain ⟨sB,ha2,Aj⟩:=z0_ _ _ py;have ze:a<L:=(by omega);obtain ⟨s,hs,l1,l2,l3,l4,l5,l6,l7⟩:=de.elem (HFA.ext hE) HOKM a c (by rw [HL2.out];exact ze) s6;unfold maxLen at l3;have HNX:=oA (Z0c rm he py);have HCM:=oA (Z6a (aC m2 i c) (aC m2 a c));have HE:=oA hE;obtain ⟨x,hx⟩:=oZ (aC m2 i c);obtain ⟨y,hy⟩:=oZ (aC m2 a c);rw [hx] at k4 hz k7 HNX HCM;rw [hy] at l4 l7 HNX HCM;have HCQ:=oA (fun W=>s0_ (x.natAbs:Int) (y.natAbs:Int) W (Z3i (Z57 k7)) (Z3i (Z57 l7)));clear ht k5 k6 k7 he hx hy hE py hs l5 l6 l7 sB ha2 Aj;by_cases hxy:x.natAbs<y.natAbs
         ·have wR:decide (fD (x.natAbs:Int) (y.natAbs:Int)<0)=true:=(by rw [HCM.out];exact oT hxy);have HN:Hid (Value.int .i64 (i:Int)=mn (an c d m2 (i+1-d))):=(by unfold Hid;rw [HNX.out,if_pos hxy];rfl);clear hxy HNX HCM;go_wp2_with fail
          go_quiet ((first | (go_at_call 152;exact Calls.quiet_of (mi _ _)) | (go_at_call 151;exact Calls.quiet_of (HCQ _))))
          go_wp2_with fail;go_roundw
          case rel=>exact ⟨i+1,by omega,by omega,by go_num,aA.draws HE _,HN⟩
          case measure=>simp [intOf];omega
         ·have wR:decide (fD (x.natAbs:Int) (y.natAbs:Int)<0)=false:=(by rw [HCM.out];exact oS hxy);have HN:Hid (Value.int .i64 (a:Int)=mn (an c d m2 (i+1-d))):=(by unfold Hid;rw [HNX.out,if_neg hxy];rfl);clear hxy HNX HCM;go_wp2_with fail
          go_quiet ((first | (go_at_call 152;exact Calls.quiet_of (mi _ _)) | (go_at_call 151;exact Calls.quiet_of (HCQ _))))
          go_wp2_with fail;go_roundw
          case rel=>exact ⟨i+1,by omega,by omega,by go_num,aA.draws HE _,HN⟩
          case measure=>simp [intOf];omega
      ·obtain rfl:i=L:=(by omega);clear hA;have hA:=HA0.out;have hS:=HS.out;have HE:=oA hE;have HG3:=oA (hG.ext hE);have HF3:=oA (HFA.ext hE);clear hE hG HFA HS;cases py:an c d m2 (i-d) with
       | none =>
        rw [py] at hA hS;obtain rfl:u7=.int .i64 (-1):=hA;simp only [Option.some.injEq,Prod.mk.injEq] at hS;obtain ⟨rfl,rfl⟩:=hS;have Dm:Hid (b9 n F q (c+1) d m2=some R):=HC2.out;have HQ2:Hid (cols-(c+1)=q):=(by have:=HQ.out;unfold Hid;omega);clear py HC2 HA0;go_wp2_with fail;go_roundw
        case rel=>exact ⟨c+1,d,m2,pC,by omega,by omega,by go_num,rfl,HG3,HF3,HL2,by unfold Hid;rw [HQ2.out];exact Dm⟩
        case measure=>simp [intOf];omega
       | some a =>
        rw [py] at hA hS;obtain rfl:u7=.int .i64 a:=hA
        dsimp only at hS
        obtain ⟨sB,ha2,Aj⟩:=z0_ _ _ py;have ze:a<i:=(by omega);obtain ⟨td,we,c1,c2,c3,c4,c5⟩:=HF3.1.get d (by rw [HL2.out];omega);obtain ⟨ta,wg,e1,e2,e3,e4,e5⟩:=HF3.1.get a (by rw [HL2.out];omega);have fd:=HF3.1.free d;have fa:=HF3.1.free a;have HTD:=oA we;have HTA:=oA wg;have HSW1:=oA (HF3.1.swap d a (by rw [HL2.out];omega) (by rw [HL2.out];omega) td ta we wg);have HSd:=oA hS;clear hS py HA0 we wg c2 c3 c4 c5 e2 e3 e4 e5 ha2 Aj
        go_upto_region 12 with fail
        go_cut [] from 29 to 177 (fun wx=>Hid (de wx g0 tags (a8 pC d a) (a8 m2 d a))/\Hid (aG (dB g0 tags) w wx))
        case first =>
         as_aux_lemma =>
         have hSub:∀ b,b∈(a8 pC d a).map (·.1)->b∈tags.map (·.1):=fun b hb=>by
          rw [n7_] at hb;exact HF3.2 b (S9_ _ _ _ _ hb)
         have HSub:=oA hSub;clear hSub;by_cases vz:d=a
         ·subst vz;obtain rfl:td=ta:=oM (HTD.symm.trans HTA)
          go_region
          all_goals (go_wp2_with fail;go_meet;exact ⟨⟨HSW1.ext (aA.drew _),HSub⟩,((HG3.setCell (List.mem_cons_self ..) _ _).setCell (List.mem_cons_self ..) _ _).ext (aA.drew _)⟩)
         ·have Ff:¬ a=d:=fun e=>vz e.symm
          go_region
          all_goals (go_wp2_with fail;go_meet;exact ⟨⟨HSW1.ext (aA.drew _),HSub⟩,((HG3.setCell (List.mem_cons_self ..) _ _).setCell (List.mem_cons_self ..) _ _).ext (aA.drew _)⟩)
        case rest =>
         obtain ⟨zz,BC⟩:=hcut;have HOKS:=oA (w4_ HOKM d a);have qn:Hid ((a8 m2 d a).length=i):=(by unfold Hid;rw [jc];exact HL2);have hSd:=HSd.out;have wW:Hid (∀ W,aG (dB g0 tags) w W->ae W):=fun W hW=>HT.below (hW.below rP HGB) HB;obtain ⟨ms,yP⟩:=oZ (a8 m2 d a);rw [yP] at zz HOKS qn hSd;clear yP HSd HSW1 HF3 HG3 c1 e1 fd fa HTD HTA;cases pP:cB c d ms (i-(d+1)) with
         | none=>rw [pP] at hSd;cases hSd
         | some r =>
         obtain ⟨mf,rf⟩:=r;rw [pP] at hSd;have HDN:=oA pP;have HSE:=oA hSd;clear pP hSd;go_wp2_with fail
         go_loopw [9,10] (fun sr si wr=>∃ (i4:Nat) (mj:oe) (rj:Bool),d+1<=i4/\i4<=i/\si=.int .i64 i4/\sr=.bool rj/\Hid (aG (dB g0 tags) w wr)/\Hid (de wr g0 tags (a8 pC d a) mj)/\Hid (cB c d ms (i4-(d+1))=some (mj,rj))) (fun _ si _=>i-(intOf si).toNat)
         case atStart=>exact ⟨d+1,ms,false,by omega,by omega,by go_num,rfl,BC,zz,by unfold Hid;rw [Nat.sub_self];rfl⟩
         case round =>
          obtain ⟨i4,mj,rj,Lr,Ax,rfl,rfl,qd,qo,pn⟩:=hrel;obtain ⟨w4,rfl⟩:∃ w4:World,w4=wr:=⟨_,rfl⟩;obtain ⟨sj,rR,vf⟩:=jt pn (by rw [qn.out];omega);have qG:Hid (mj.length=i):=(by unfold Hid;rw [sj];exact qn);by_cases DF:i4<i
          ·as_aux_lemma =>
           obtain ⟨z,sA⟩:=D0_ HDN (i4+1-(d+1)) (by omega);rw [show i4+1-(d+1)=(i4-(d+1))+1 by omega] at sA;obtain ⟨mj',rj',nr,e1,ph,pH,e2⟩:=nJ sA;rw [pn.out] at e1;simp only [Option.some.injEq,Prod.mk.injEq] at e1;obtain ⟨rfl,rfl⟩:=e1;rw [show d+1+(i4-(d+1))=i4 by omega] at pH e2;have HXL:Hid ((aD mj i4).length=n/\(aD mj i4).all bp=true):=by
            unfold Hid;rw [rR i4 (by omega)];exact eZ HOKS i4 (by rw [qn.out];omega)
           have HYL:Hid ((aD mj d).length=n/\(aD mj d).all bp=true):=by
            unfold Hid;rw [rR d (by omega)];exact eZ HOKS d (by rw [qn.out];omega)
           have HST:Hid (cB c d ms (i4+1-(d+1))=some (mj.set i4 nr,rj || decide (aq (aC mj i4 c) (aC mj d c)≠0))):=(by unfold Hid;rw [show i4+1-(d+1)=(i4-(d+1))+1 by omega,sA,e2]);clear sA e2 sj rR vf;obtain ⟨t4,sU,b1,b2,b3,b4,b5⟩:=qo.1.get i4 (by rw [qG.out];omega);obtain ⟨tp,sD,p1,p2,p3,p4,p5⟩:=qo.1.get d (by rw [qG.out];omega);have hap:=qo.1.apart sU sD (by omega);have hb4:=qo.inb sU;unfold maxLen at b3 p3;have hbg:=HGB t4.1 hb4;obtain ⟨xr,px⟩:=oZ (aD mj i4);obtain ⟨yr,qA⟩:=oZ (aD mj d);rw [px] at b1 b2 b4;rw [qA] at p1 p2 p4;have hxl:xr.length=n:=(by rw [<- px];exact HXL.1);have hyl:yr.length=n:=(by rw [<- qA];exact HYL.1);have hcx:c<xr.length:=(by omega);have sY:c<yr.length:=(by omega);have ex:xr[c]?=some (aC mj i4 c):=(by rw [<- px];exact ke (by rw [px];exact hcx));have ey:yr[c]?=some (aC mj d c):=(by rw [<- qA];exact ke (by rw [qA];exact sY));have b6:=b4.cell c _ ex;have p6:=p4.cell c _ ey;have rB:Sz (aC mj i4 c):=ec (List.all_eq_true.1 HXL.2 _ (by rw [px];exact oE ex));have tc:Sz (aC mj d c):=ec (List.all_eq_true.1 HYL.2 _ (by rw [qA];exact oE ey));have HDM:=oA (fun W hW=>nI (aC mj i4 c) (aC mj d c) W rB tc ph hW);rw [px,qA] at pH;have HLE:=oA pH;have hz:=fV (aq (aC mj i4 c) (aC mj d c));obtain ⟨xe,tB⟩:=oZ (aC mj i4 c);obtain ⟨ye,qf⟩:=oZ (aC mj d c);rw [tB] at b6 HDM hz HLE;rw [qf] at p6 HDM hz HLE;have HXR:=oA px;have HYR:=oA qA;have HXE:=oA tB;have HYE:=oA qf;have HT4:=oA sU;have HB4:=oA b4;have HP4:=oA p4;have HXN:=oA hxl;have HYN:=oA hyl;have hb5:tp.1≠t4.1:=fun e=>hap e.symm;clear px qA tB qf ex ey rB tc pH sU sD b4 p4 b5 p5 ph hxl hyl hap hb4
           go_upto_region 17 with fail
           go_cut [11,12] from 87 to 126 (fun sq sr wx=>sq=.string (aB (aN xe ye))/\sr=.string (aB (aq xe ye))/\Hid (aA w4 wx))
           case first =>
            have HE0:Hid (aA w4 w4.drew):=aA.drew w4
            go_region_held3 (fun w'=>w'.cell? ⟨g0,i4,none⟩=some (.slice (some ⟨t4.1,t4.2.1,none⟩) xr.length t4.2.2)/\w'.cell? ⟨g0,d,none⟩=some (.slice (some ⟨tp.1,tp.2.1,none⟩) yr.length tp.2.2)/\w'.cell? ⟨t4.1,t4.2.1+c,none⟩=some (.string (aB xe))/\w'.cell? ⟨tp.1,tp.2.1+c,none⟩=some (.string (aB ye))/\Hid (aA w4 w'))
             (first | exact ⟨z1,z2,z3,z4,z5⟩ | exact ⟨b1,p1,b6,p6,HE0⟩ | go_keep)
             (first | (go_at_call 94;refine (HDM _ ?_).mono ?_;(exact wW _ (qd.ext (Hid.out (p:=aA w4 _) (by assumption))));rintro e w5 ⟨rfl,o5⟩;have z1:=o5.cell (a:=⟨g0,i4,none⟩) (v:=.slice (some ⟨t4.1,t4.2.1,none⟩) xr.length t4.2.2) (by assumption);have z2:=o5.cell (a:=⟨g0,d,none⟩) (v:=.slice (some ⟨tp.1,tp.2.1,none⟩) yr.length tp.2.2) (by assumption);have z3:=o5.cell (a:=⟨t4.1,t4.2.1+c,none⟩) (v:=.string (aB xe)) (by assumption);have z4:=o5.cell (a:=⟨tp.1,tp.2.1+c,none⟩) (v:=.string (aB ye)) (by assumption);have z5:Hid (aA w4 w5):=aA.trans (Hid.out (p:=aA w4 _) (by assumption)) o5))
            all_goals (go_wp2_with fail;go_meet;exact ⟨rfl,rfl,by assumption⟩)
           case rest =>
           obtain ⟨rfl,rfl,HE5⟩:=hcut;obtain ⟨w5,rfl⟩:∃ w5:World,w5=wc:=⟨_,rfl⟩;have HG5:=oA (qd.ext HE5);have b7:=HE5.cell b1;have p7:=HE5.cell p1;clear HDM b1 p1 b6 p6;go_wp2_with fail;refine wp_region_still_tail 9 (by kernel_rfl) (by kernel_rfl) ?_;simp only [List.take_succ_cons,List.take_zero,List.drop_succ_cons,List.drop_zero];change wpStill prog _ w5.drew _ _ _
           repeat still_step
           try refine wpStill_nil ?_
           change wpList _ _ _ _ _ w5.drew;have HE6:Hid (aA w4 w5.drew):=aA.trans HE5 (aA.drew w5);have HG6:Hid (aG (dB g0 tags) w w5.drew):=qd.ext HE6;have xh:base<=w5.drew.heap.size:=oJ rP HG6.size;have HLS:=oA (x4_ (aN xe ye) xr yr nr t4.1 t4.2.1 t4.2.2 tp.1 tp.2.1 tp.2.2 base w5.drew (HB4.ext HE6) (HP4.ext HE6) hb5 HLE b2 (by unfold maxLen;exact b3) p2 (by unfold maxLen;exact p3) (wW _ HG6) HB hbg xh);clear b7 p7;go_wp2_with fail;refine HLS.mono ?_;rintro e w7 ⟨rfl,xp,zh⟩;have Bq:Hid (de w7 g0 tags (a8 pC d a) (mj.set i4 nr)):=(qo.ext HE6).grownRow i4 (by rw [qG.out];omega) t4 HT4 nr (by rw [HXR.out];exact nZ HLE) xp zh;have HG7:Hid (aG (dB g0 tags) w w7):=HG6.trans (xp.weak (fun k hk hk2=>by rw [hk2];exact qo.inb HT4));clear HLS xp zh;rw [HXE.out,HYE.out] at HST;by_cases rK:aq xe ye=0
           ·rw [oT rK] at hz;have x5:Hid ((rj || decide (aq xe ye≠0))=rj):=(by unfold Hid;rw [oS (by simp [rK]),Bool.or_false]);rw [x5.out] at HST;clear rK x5;cases rj
            all_goals
             go_wp2_with fail;go_roundw
             case rel=>exact ⟨i4+1,mj.set i4 nr,_,by omega,by omega,by go_num,rfl,HG7,Bq,HST⟩
             case measure=>simp [intOf];omega
           ·rw [oS rK] at hz;have x5:Hid ((rj || decide (aq xe ye≠0))=true):=(by unfold Hid;rw [oT rK,Bool.or_true]);rw [x5.out] at HST;clear rK x5;cases rj
            all_goals
             go_wp2_with fail;go_roundw
             case rel=>exact ⟨i4+1,mj.set i4 nr,true,by omega,by omega,by go_num,rfl,HG7,Bq,HST⟩
             case measure=>simp [intOf];omega
          ·obtain rfl:i4=i:=(by omega);have yh:mj=mf/\rj=rf:=by
            have:=pn.out;rw [HDN.out] at this;simp only [Option.some.injEq,Prod.mk.injEq] at this;exact ⟨this.1.symm,this.2.symm⟩
           obtain ⟨rfl,rfl⟩:=yh
           as_aux_lemma =>
           obtain ⟨LL,rfl⟩:=oc i4;have K9:d<LL:=(by omega);have hSE:=HSE.out;clear HSE HDN pn sj rR vf qn HOKS zz BC;cases rj with
           | true =>
            try dsimp only at hSE
            have HSE2:=oA hSE;clear hSE;go_wp2_with fail
            go_roundg f
            case measure=>omega
            case rel=>exact ⟨mj,a8 pC d a,rfl,qd,qo,qG,HSE2⟩
           | false =>
            try dsimp only at hSE
            by_cases qi:bH n mj=true
            ·rw [if_pos qi] at hSE;obtain ⟨tp,sD,p1,p2,p3,p4,p5⟩:=qo.1.get d (by rw [qG.out];omega);have hbp:=qo.inb sD;unfold maxLen at p3;have hyl:=(eZ qi d (by rw [qG.out];omega)).1;have hys:=(eZ qi d (by rw [qG.out];omega)).2;have sY:c<(aD mj d).length:=(by omega);have ey:=ke sY;have p6:=p4.cell c _ ey;have HSG:=oA (fun W=>lH (aC mj d c) W);have HP4:=oA p4;have HTP:=oA sD;have HYS:=oA hys;have HYL:=oA hyl;obtain ⟨yr,qA⟩:=oZ (aD mj d);obtain ⟨ye,qf⟩:=oZ (aC mj d c);rw [qA] at p1 p2 sY HP4 HYS HYL;rw [qf] at p6 HSG hSE;have HYR:=oA qA;have HOK2:=oA qi;have HSE2:=oA hSE;clear sD p4 hyl hys ey qA qf qi hSE;by_cases hneg:ye<0
             ·as_aux_lemma =>
              have hsg:ye.sign=-1:=Int.sign_eq_neg_one_of_neg hneg;have HNG:=oA (fun W hW=>Z0V yr tp.1 tp.2.1 tp.2.2 W hW p2 (by unfold maxLen;exact p3) HYS);have HUP0:=HSE2.out;rw [if_pos hneg,HYR.out] at HUP0;rw [hsg] at HSG;clear hneg hsg HSE2;go_wp2_with fail;refine (HSG _).mono ?_;rintro e w' ⟨rfl,rfl⟩;clear HSG p6;go_wp2_with fail;refine (HNG _ HP4).mono ?_;rintro e w8 ⟨rfl,GI,Bb⟩;have HGN:Hid (aG (dB g0 tags) w w8):=qd.trans (GI.weak (fun k hk hk2=>by rw [hk2];exact hbp));have BD:Hid (de w8 g0 tags (a8 pC d a) (mj.set d (dA yr))):=qo.grownRow d (by rw [qG.out];omega) tp HTP (dA yr) (by rw [HYR.out];unfold dA;rw [List.length_map]) GI Bb;have x7:Hid (bH n (mj.set d (dA yr))=true):=Z5P HOK2 d (dA yr) (by unfold dA;rw [List.length_map];exact HYL) (Z5L HYS);have x9:Hid ((mj.set d (dA yr)).length=LL):=(by unfold Hid;rw [List.length_set];exact qG);obtain ⟨mN,hmN⟩:=oZ (mj.set d (dA yr));have HUP:∃ z,cR c d mN d=some z/\m3=z/\p=true:=by
               rw [<- hmN];exact Z3x HUP0
              rw [hmN] at BD x7 x9;have HFN:=BD;have HOKN:=x7;have HLNX:=x9;clear hmN BD x7 x9 HUP0 GI Bb HNG qd qo qG p1;have xw:Hid (∃ z,cR c d mN d=some z/\m3=z/\p=true):=HUP;obtain ⟨mU,CY,rfl,rfl⟩:=xw.out;have HU:=oA CY;have HLN:Hid (mN.length=LL):=HLNX;clear CY xw;go_wp2_with fail
              go_loopw [143] (fun si wr=>∃ (i4:Nat) (mj:oe),i4<=d/\si=.int .i64 i4/\Hid (aG (dB g0 tags) w wr)/\Hid (de wr g0 tags (a8 pC d a) mj)/\Hid (cR c d mN i4=some mj)) (fun si _=>d-(intOf si).toNat)
              case atStart=>exact ⟨0,mN,by omega,rfl,HGN,HFN,rfl⟩
              case round =>
               obtain ⟨i4,mj,Ax,rfl,qd,qo,pn⟩:=hrel;obtain ⟨w4,rfl⟩:∃ w4:World,w4=wr:=⟨_,rfl⟩;obtain ⟨sj,rR,vf⟩:=n_ pn Ax (by rw [HLN.out];omega);have qG:Hid (mj.length=LL):=(by unfold Hid;rw [sj];exact HLN);by_cases DF:i4<d
               ·obtain ⟨z,sA⟩:=u1_ HU (i4+1) (by omega);have Ls:i4<LL:=(by omega);obtain ⟨mj',nr,e1,ph,pH,e2⟩:=mY sA;rw [pn.out] at e1;obtain rfl:=oM e1;have HXL:Hid ((aD mj i4).length=n/\(aD mj i4).all bp=true):=by
                 unfold Hid;rw [rR i4 (by omega)];exact eZ HOKN i4 (by rw [HLN.out];omega)
                have HYL:Hid ((aD mj d).length=n/\(aD mj d).all bp=true):=by
                 unfold Hid;rw [rR d (by omega)];exact eZ HOKN d (by rw [HLN.out];omega)
                have HST:Hid (cR c d mN (i4+1)=some (mj.set i4 nr)):=(by unfold Hid;rw [sA,e2]);clear sA e1 e2 sj rR vf;obtain ⟨t4,sU,b1,b2,b3,b4,b5⟩:=qo.1.get i4 (by rw [qG.out];omega);obtain ⟨tp,sD,p1,p2,p3,p4,p5⟩:=qo.1.get d (by rw [qG.out];omega);have hap:=qo.1.apart sU sD (by omega);have hb4:=qo.inb sU;unfold maxLen at b3 p3;have hbg:=HGB t4.1 hb4;obtain ⟨xr,px⟩:=oZ (aD mj i4);obtain ⟨yr,qA⟩:=oZ (aD mj d);rw [px] at b1 b2 b4;rw [qA] at p1 p2 p4;have hxl:xr.length=n:=(by rw [<- px];exact HXL.1);have hyl:yr.length=n:=(by rw [<- qA];exact HYL.1);have hcx:c<xr.length:=(by omega);have sY:c<yr.length:=(by omega);have ex:xr[c]?=some (aC mj i4 c):=(by rw [<- px];exact ke (by rw [px];exact hcx));have ey:yr[c]?=some (aC mj d c):=(by rw [<- qA];exact ke (by rw [qA];exact sY));have b6:=b4.cell c _ ex;have p6:=p4.cell c _ ey;have rB:Sz (aC mj i4 c):=ec (List.all_eq_true.1 HXL.2 _ (by rw [px];exact oE ex));have tc:Sz (aC mj d c):=ec (List.all_eq_true.1 HYL.2 _ (by rw [qA];exact oE ey));have HDM:=oA (fun W hW=>nI (aC mj i4 c) (aC mj d c) W rB tc ph hW);rw [px,qA] at pH;have HLE:=oA pH;have hz:=fV (aq (aC mj i4 c) (aC mj d c));obtain ⟨xe,tB⟩:=oZ (aC mj i4 c);obtain ⟨ye,qf⟩:=oZ (aC mj d c);rw [tB] at b6 HDM hz HLE;rw [qf] at p6 HDM hz HLE;have HXR:=oA px;have HYR:=oA qA;have HXE:=oA tB;have HYE:=oA qf;have HT4:=oA sU;have HB4:=oA b4;have HP4:=oA p4;have HXN:=oA hxl;have HYN:=oA hyl;have hb5:tp.1≠t4.1:=fun e=>hap e.symm;clear px qA tB qf ex ey rB tc pH sU sD b4 p4 b5 p5 ph hxl hyl hap hb4
                go_upto_region 26 with fail
                go_cut [15,16,143] from 143 to 175 (fun sq sr sc wx=>sq=.string (aB (aN xe ye))/\sr=.string (aB (aq xe ye))/\sc=.int .i64 i4/\Hid (aA w4 wx))
                case first =>
                 have HE0:Hid (aA w4 w4.drew):=aA.drew w4
                 go_region_held3 (fun w'=>w'.cell? ⟨g0,i4,none⟩=some (.slice (some ⟨t4.1,t4.2.1,none⟩) xr.length t4.2.2)/\w'.cell? ⟨g0,d,none⟩=some (.slice (some ⟨tp.1,tp.2.1,none⟩) yr.length tp.2.2)/\w'.cell? ⟨t4.1,t4.2.1+c,none⟩=some (.string (aB xe))/\w'.cell? ⟨tp.1,tp.2.1+c,none⟩=some (.string (aB ye))/\Hid (aA w4 w'))
                  (first | exact ⟨z1,z2,z3,z4,z5⟩ | exact ⟨b1,p1,b6,p6,HE0⟩ | go_keep)
                  (first | (go_at_call 94;refine (HDM _ ?_).mono ?_;(exact wW _ (qd.ext (Hid.out (p:=aA w4 _) (by assumption))));rintro e w5 ⟨rfl,o5⟩;have z1:=o5.cell (a:=⟨g0,i4,none⟩) (v:=.slice (some ⟨t4.1,t4.2.1,none⟩) xr.length t4.2.2) (by assumption);have z2:=o5.cell (a:=⟨g0,d,none⟩) (v:=.slice (some ⟨tp.1,tp.2.1,none⟩) yr.length tp.2.2) (by assumption);have z3:=o5.cell (a:=⟨t4.1,t4.2.1+c,none⟩) (v:=.string (aB xe)) (by assumption);have z4:=o5.cell (a:=⟨tp.1,tp.2.1+c,none⟩) (v:=.string (aB ye)) (by assumption);have z5:Hid (aA w4 w5):=aA.trans (Hid.out (p:=aA w4 _) (by assumption)) o5))
                 all_goals (go_wp2_with fail;go_meet;exact ⟨rfl,rfl,rfl,by assumption⟩)
                case rest =>
                obtain ⟨rfl,rfl,rfl,HE5⟩:=hcut;obtain ⟨w5,rfl⟩:∃ w5:World,w5=wc:=⟨_,rfl⟩;have HG5:=oA (qd.ext HE5);have b7:=HE5.cell b1;have p7:=HE5.cell p1;clear HDM b1 p1 b6 p6;go_wp2_with fail;refine wp_region_still_tail 9 (by kernel_rfl) (by kernel_rfl) ?_;simp only [List.take_succ_cons,List.take_zero,List.drop_succ_cons,List.drop_zero];change wpStill prog _ w5.drew _ _ _
                repeat still_step
                try refine wpStill_nil ?_
                change wpList _ _ _ _ _ w5.drew;have HE6:Hid (aA w4 w5.drew):=aA.trans HE5 (aA.drew w5);have HG6:Hid (aG (dB g0 tags) w w5.drew):=qd.ext HE6;have xh:base<=w5.drew.heap.size:=oJ rP HG6.size;have HLS:=oA (x4_ (aN xe ye) xr yr nr t4.1 t4.2.1 t4.2.2 tp.1 tp.2.1 tp.2.2 base w5.drew (HB4.ext HE6) (HP4.ext HE6) hb5 HLE b2 (by unfold maxLen;exact b3) p2 (by unfold maxLen;exact p3) (wW _ HG6) HB hbg xh);clear b7 p7;go_wp2_with fail;refine HLS.mono ?_;rintro e w7 ⟨rfl,xp,zh⟩;have Bq:Hid (de w7 g0 tags (a8 pC d a) (mj.set i4 nr)):=(qo.ext HE6).grownRow i4 (by rw [qG.out];omega) t4 HT4 nr (by rw [HXR.out];exact nZ HLE) xp zh;have HG7:Hid (aG (dB g0 tags) w w7):=HG6.trans (xp.weak (fun k hk hk2=>by rw [hk2];exact qo.inb HT4));clear HLS xp zh;go_wp2_with fail;go_roundw
                case rel=>exact ⟨i4+1,mj.set i4 nr,by omega,by go_num,HG7,Bq,HST⟩
                case measure=>simp [intOf];omega
               ·obtain rfl:i4=d:=(by omega);have E3:mj=m3:=(by have:=pn.out;rw [HU.out] at this;exact (oM this).symm);subst E3;have Dm:Hid (b9 n F q (c+1) (i4+1) mj=some R):=by
                 have h:=HC2.out;rw [if_pos (by first | trivial | rfl)] at h;exact h
                have HQ2:Hid (cols-(c+1)=q):=(by have:=HQ.out;unfold Hid;omega);clear HC2 sj rR vf;go_wp2_with fail;go_roundw
                case rel=>exact ⟨c+1,i4+1,mj,a8 pC i4 a,by omega,by omega,by go_num,by go_num,qd,qo,qG,by unfold Hid;rw [HQ2.out];exact Dm⟩
                case measure=>simp [intOf];omega
             ·as_aux_lemma =>
              have HUP0:=HSE2.out;rw [if_neg hneg] at HUP0;have hsg:¬ ye.sign<0:=by
               rcases Int.lt_trichotomy ye 0 with h | h | h;·exact absurd h hneg
               ·rw [h];decide
               ·rw [Int.sign_eq_one_of_pos h];decide
              obtain ⟨sg,B7⟩:=oZ ye.sign;rw [B7] at HSG hsg;clear hneg HSE2 B7;go_wp2_with fail;refine (HSG _).mono ?_;rintro e w' ⟨rfl,rfl⟩;clear HSG p6;have HGN:=qd;have HFN:=qo;have HOKN:=HOK2;have HLNX:=qG;have HUP:∃ z,cR c d mj d=some z/\m3=z/\p=true:=Z3x HUP0;obtain ⟨mN,rfl⟩:=oc mj;clear HUP0 qd qo qG p1;have xw:Hid (∃ z,cR c d mN d=some z/\m3=z/\p=true):=HUP;obtain ⟨mU,CY,rfl,rfl⟩:=xw.out;have HU:=oA CY;have HLN:Hid (mN.length=LL):=HLNX;clear CY xw;go_wp2_with fail
              go_loopw [143] (fun si wr=>∃ (i4:Nat) (mj:oe),i4<=d/\si=.int .i64 i4/\Hid (aG (dB g0 tags) w wr)/\Hid (de wr g0 tags (a8 pC d a) mj)/\Hid (cR c d mN i4=some mj)) (fun si _=>d-(intOf si).toNat)
              case atStart=>exact ⟨0,mN,by omega,rfl,HGN,HFN,rfl⟩
              case round =>
               obtain ⟨i4,mj,Ax,rfl,qd,qo,pn⟩:=hrel;obtain ⟨w4,rfl⟩:∃ w4:World,w4=wr:=⟨_,rfl⟩;obtain ⟨sj,rR,vf⟩:=n_ pn Ax (by rw [HLN.out];omega);have qG:Hid (mj.length=LL):=(by unfold Hid;rw [sj];exact HLN);by_cases DF:i4<d
               ·obtain ⟨z,sA⟩:=u1_ HU (i4+1) (by omega);have Ls:i4<LL:=(by omega);obtain ⟨mj',nr,e1,ph,pH,e2⟩:=mY sA;rw [pn.out] at e1;obtain rfl:=oM e1;have HXL:Hid ((aD mj i4).length=n/\(aD mj i4).all bp=true):=by
                 unfold Hid;rw [rR i4 (by omega)];exact eZ HOKN i4 (by rw [HLN.out];omega)
                have HYL:Hid ((aD mj d).length=n/\(aD mj d).all bp=true):=by
                 unfold Hid;rw [rR d (by omega)];exact eZ HOKN d (by rw [HLN.out];omega)
                have HST:Hid (cR c d mN (i4+1)=some (mj.set i4 nr)):=(by unfold Hid;rw [sA,e2]);clear sA e1 e2 sj rR vf;obtain ⟨t4,sU,b1,b2,b3,b4,b5⟩:=qo.1.get i4 (by rw [qG.out];omega);obtain ⟨tp,sD,p1,p2,p3,p4,p5⟩:=qo.1.get d (by rw [qG.out];omega);have hap:=qo.1.apart sU sD (by omega);have hb4:=qo.inb sU;unfold maxLen at b3 p3;have hbg:=HGB t4.1 hb4;obtain ⟨xr,px⟩:=oZ (aD mj i4);obtain ⟨yr,qA⟩:=oZ (aD mj d);rw [px] at b1 b2 b4;rw [qA] at p1 p2 p4;have hxl:xr.length=n:=(by rw [<- px];exact HXL.1);have hyl:yr.length=n:=(by rw [<- qA];exact HYL.1);have hcx:c<xr.length:=(by omega);have sY:c<yr.length:=(by omega);have ex:xr[c]?=some (aC mj i4 c):=(by rw [<- px];exact ke (by rw [px];exact hcx));have ey:yr[c]?=some (aC mj d c):=(by rw [<- qA];exact ke (by rw [qA];exact sY));have b6:=b4.cell c _ ex;have p6:=p4.cell c _ ey;have rB:Sz (aC mj i4 c):=ec (List.all_eq_true.1 HXL.2 _ (by rw [px];exact oE ex));have tc:Sz (aC mj d c):=ec (List.all_eq_true.1 HYL.2 _ (by rw [qA];exact oE ey));have HDM:=oA (fun W hW=>nI (aC mj i4 c) (aC mj d c) W rB tc ph hW);rw [px,qA] at pH;have HLE:=oA pH;have hz:=fV (aq (aC mj i4 c) (aC mj d c));obtain ⟨xe,tB⟩:=oZ (aC mj i4 c);obtain ⟨ye,qf⟩:=oZ (aC mj d c);rw [tB] at b6 HDM hz HLE;rw [qf] at p6 HDM hz HLE;have HXR:=oA px;have HYR:=oA qA;have HXE:=oA tB;have HYE:=oA qf;have HT4:=oA sU;have HB4:=oA b4;have HP4:=oA p4;have HXN:=oA hxl;have HYN:=oA hyl;have hb5:tp.1≠t4.1:=fun e=>hap e.symm;clear px qA tB qf ex ey rB tc pH sU sD b4 p4 b5 p5 ph hxl hyl hap hb4
                go_upto_region 26 with fail
                go_cut [15,16,143] from 143 to 175 (fun sq sr sc wx=>sq=.string (aB (aN xe ye))/\sr=.string (aB (aq xe ye))/\sc=.int .i64 i4/\Hid (aA w4 wx))
                case first =>
                 have HE0:Hid (aA w4 w4.drew):=aA.drew w4
                 go_region_held3 (fun w'=>w'.cell? ⟨g0,i4,none⟩=some (.slice (some ⟨t4.1,t4.2.1,none⟩) xr.length t4.2.2)/\w'.cell? ⟨g0,d,none⟩=some (.slice (some ⟨tp.1,tp.2.1,none⟩) yr.length tp.2.2)/\w'.cell? ⟨t4.1,t4.2.1+c,none⟩=some (.string (aB xe))/\w'.cell? ⟨tp.1,tp.2.1+c,none⟩=some (.string (aB ye))/\Hid (aA w4 w'))
                  (first | exact ⟨z1,z2,z3,z4,z5⟩ | exact ⟨b1,p1,b6,p6,HE0⟩ | go_keep)
                  (first | (go_at_call 94;refine (HDM _ ?_).mono ?_;(exact wW _ (qd.ext (Hid.out (p:=aA w4 _) (by assumption))));rintro e w5 ⟨rfl,o5⟩;have z1:=o5.cell (a:=⟨g0,i4,none⟩) (v:=.slice (some ⟨t4.1,t4.2.1,none⟩) xr.length t4.2.2) (by assumption);have z2:=o5.cell (a:=⟨g0,d,none⟩) (v:=.slice (some ⟨tp.1,tp.2.1,none⟩) yr.length tp.2.2) (by assumption);have z3:=o5.cell (a:=⟨t4.1,t4.2.1+c,none⟩) (v:=.string (aB xe)) (by assumption);have z4:=o5.cell (a:=⟨tp.1,tp.2.1+c,none⟩) (v:=.string (aB ye)) (by assumption);have z5:Hid (aA w4 w5):=aA.trans (Hid.out (p:=aA w4 _) (by assumption)) o5))
                 all_goals (go_wp2_with fail;go_meet;exact ⟨rfl,rfl,rfl,by assumption⟩)
                case rest =>
                obtain ⟨rfl,rfl,rfl,HE5⟩:=hcut;obtain ⟨w5,rfl⟩:∃ w5:World,w5=wc:=⟨_,rfl⟩;have HG5:=oA (qd.ext HE5);have b7:=HE5.cell b1;have p7:=HE5.cell p1;clear HDM b1 p1 b6 p6;go_wp2_with fail;refine wp_region_still_tail 9 (by kernel_rfl) (by kernel_rfl) ?_;simp only [List.take_succ_cons,List.take_zero,List.drop_succ_cons,List.drop_zero];change wpStill prog _ w5.drew _ _ _
                repeat still_step
                try refine wpStill_nil ?_
                change wpList _ _ _ _ _ w5.drew;have HE6:Hid (aA w4 w5.drew):=aA.trans HE5 (aA.drew w5);have HG6:Hid (aG (dB g0 tags) w w5.drew):=qd.ext HE6;have xh:base<=w5.drew.heap.size:=oJ rP HG6.size;have HLS:=oA (x4_ (aN xe ye) xr yr nr t4.1 t4.2.1 t4.2.2 tp.1 tp.2.1 tp.2.2 base w5.drew (HB4.ext HE6) (HP4.ext HE6) hb5 HLE b2 (by unfold maxLen;exact b3) p2 (by unfold maxLen;exact p3) (wW _ HG6) HB hbg xh);clear b7 p7;go_wp2_with fail;refine HLS.mono ?_;rintro e w7 ⟨rfl,xp,zh⟩;have Bq:Hid (de w7 g0 tags (a8 pC d a) (mj.set i4 nr)):=(qo.ext HE6).grownRow i4 (by rw [qG.out];omega) t4 HT4 nr (by rw [HXR.out];exact nZ HLE) xp zh;have HG7:Hid (aG (dB g0 tags) w w7):=HG6.trans (xp.weak (fun k hk hk2=>by rw [hk2];exact qo.inb HT4));clear HLS xp zh;go_wp2_with fail;go_roundw
                case rel=>exact ⟨i4+1,mj.set i4 nr,by omega,by go_num,HG7,Bq,HST⟩
                case measure=>simp [intOf];omega
               ·obtain rfl:i4=d:=(by omega);have E3:mj=m3:=(by have:=pn.out;rw [HU.out] at this;exact (oM this).symm);subst E3;have Dm:Hid (b9 n F q (c+1) (i4+1) mj=some R):=by
                 have h:=HC2.out;rw [if_pos (by first | trivial | rfl)] at h;exact h
                have HQ2:Hid (cols-(c+1)=q):=(by have:=HQ.out;unfold Hid;omega);clear HC2 sj rR vf;go_wp2_with fail;go_roundw
                case rel=>exact ⟨c+1,i4+1,mj,a8 pC i4 a,by omega,by omega,by go_num,by go_num,qd,qo,qG,by unfold Hid;rw [HQ2.out];exact Dm⟩
                case measure=>simp [intOf];omega
            ·rw [if_neg qi] at hSE;cases hSE
    ·rw [if_neg sV] at hS;cases hS
  ·have HR:Hid (R=(m1,d)):=by
    have:=HC.out;unfold Hid;by_cases h0:cols-c=0;·rw [h0] at this;exact (oM this).symm
    ·obtain ⟨q,hq⟩:∃ q,cols-c=q+1:=⟨cols-c-1,by omega⟩;rw [hq] at this;unfold b9 at this;rw [if_neg (by rw [HL1.out];omega)] at this;exact (oM this).symm
   have HG:=oA hG;clear hG HC;by_cases zX:c<cols
   ·have qw:¬ d<L:=fun h=>hlt ⟨zX,h⟩;clear hlt;go_wp2_with fail;go_ret;rw [HR.out];exact ⟨o4,rfl,HFA,HL1,hd,HG⟩
   ·clear hlt;go_wp2_with fail;go_ret;rw [HR.out];exact ⟨o4,rfl,HFA,HL1,hd,HG⟩
def dP (w:World) (base:Nat) (v:Value) (R:oe):Prop :=
 ∃ a c,v=.slice a R.length c/\R.length<=c/\c<=maxLen/\(R=[]\/∃ g tags,a=some ⟨g,0,none⟩/\bM w g tags R/\∀ b,dB g tags b->base<=b)
theorem Z0b (F cols k:Nat) (m:oe) (tags:List (Nat×Nat×Nat)) (g0 cap base:Nat) (w:World) (R:oe) (hM:bM w g0 tags m) (hrow:bH (k+cols) m=true) (hR:dx cols F cols (dR k m)=some R)
  (pk:m.length<=cap) (pN:cap<=maxLen) (hm:m.length<=1000) (pK:1<=cols) (wP:k+cols<=1000) (ht:ae w) (hb:4<base) (hg:∀ b,dB g0 tags b->base<=b) (rP:base<=w.heap.size) :
  Calls prog 157 #[.slice (some ⟨g0,0,none⟩) m.length cap,.int .i64 k,.int .i64 cols] w fun e w'=>∃ v,e=.returned v/\dP w' base v R/\Below base w w':=by
 have HM:=oA hM;have HRW:=oA hrow;have HR:=oA hR;have HT:=oA ht;have HB:=oA hb;have HGB:=oA hg;unfold maxLen at pN;clear hM hrow hR ht hb hg
 go_enter func157,ntmps157
 go_wp2_with fail
 go_loopw [7,12] (fun out t wr=>∃ (j:Nat) (tagsO:List (Nat×Nat×Nat)),j<=m.length/\t=.int .i64 j/\aA w wr/\Hid (eA wr w.heap.size base out tagsO (dR k (m.take j)))/\Hid (∀ b,b∈tagsO.map (·.1)->b∈(tags.take j).map (·.1))/\Hid (out=.slice none 0 0/\dR k (m.take j)=[]\/∃ g c,out=.slice (some ⟨g,0,none⟩) (dR k (m.take j)).length c)) (fun _ t _=>m.length-(intOf t).toNat)
 case atStart=>exact ⟨0,[],by omega,rfl,aA.refl _,eA.nil _ _ _,by intro b h;simp at h,.inl ⟨rfl,rfl⟩⟩
 case round =>
  obtain ⟨j,tagsO,hj,rfl,hE,HL,pI,HV⟩:=hrel;obtain ⟨wo,rfl⟩:∃ wo:World,wo=wr:=⟨_,rfl⟩;have HE:=oA hE;by_cases hlt:j<m.length
  ·obtain ⟨t,BP,c1,c2,c3,c4,c5⟩:=(HM.ext hE).get j hlt;obtain ⟨hxl,hxs⟩:=eZ HRW j hlt;obtain ⟨xr,px⟩:=oZ (aD m j);have IS:m[j]?=some xr:=(by rw [<- px];exact eE hlt);rw [px] at c1 c2 c4 hxl;have HLD:=oA (Z4f xr t.1 t.2.1 t.2.2 wo c4 c2 c3);have HN:Hid (dR k (m.take (j+1))=dR k (m.take j)++(if (k:Int)<=fG xr then [xr.drop k] else [])):=by
    unfold Hid;rw [oH,IS];exact u9_ k _ xr
   have HTJ:=oA BP;have DQ:Hid (∀ b,b∈(tags.take j).map (·.1)->b∈(tags.take (j+1)).map (·.1)):=fun b hb=>by
    rw [oH,List.map_append];exact List.mem_append_left _ hb
   have HC4:=oA c4;have hkl:k<xr.length:=(by omega);have Km:¬ t.2.2=k:=(by omega);have Kl:k<=t.2.2:=(by omega);unfold maxLen at c3;have HXL:=oA hxl;have KD:xr.length<=1000:=(by omega);clear BP c4 c5 hxs px IS hxl hE;by_cases hle:(k:Int)<=fG xr
   ·rw [if_pos hle] at HN;obtain ⟨ld,qw⟩:=oZ (fG xr);rw [qw] at hle HLD;clear qw;go_wp2_with fail;refine HLD.mono ?_;rintro e w2 ⟨rfl,hE2⟩;have HE2:=oA (aA.trans HE hE2);have HL2:=oA (HL.ext hE2);have HR2:=oA ((HC4.ext hE2).drop k);have hszr:=HE2.size;clear hE2 HLD;have zd:dB g0 tags t.1:=List.mem_cons_of_mem _ (List.mem_map.2 ⟨t,oE HTJ,rfl⟩);have tb:t.1<w.heap.size:=HM.blt zd;have HE3:Hid (base<=(jQ k t).1):=HGB t.1 zd;have HE4:Hid (u7.ownBlock≠some (jQ k t).1):=fun e=>by have:=(HL.own.lt t.1 e).1;omega
    have HE5:Hid ((jQ k t).1∉tagsO.map (·.1)):=fun hm=>by
     have h1:=pI t.1 hm;obtain ⟨s,hs,es⟩:=List.mem_map.1 h1;obtain ⟨i,hi⟩:=List.getElem?_of_mem hs;have pY:i<j:=by
      have:=(oC.1 hi).1;rw [oG] at this;omega
     rw [List.getElem?_take_of_lt pY] at hi;exact HM.apart hi HTJ (by omega) es
    have HE6:Hid ((dR k (m.take j)).length<1000000):=by
     have h1:(dR k (m.take j)).length<=(m.take j).length:=(by unfold dR;rw [List.length_map];exact List.length_filter_le _ _);rw [oG] at h1;unfold Hid;omega
    have HE0:Hid (#[Value.slice (some ⟨t.1,t.2.1+k,none⟩) (xr.length-k) (t.2.2-k)]=#[iA (jQ k t) (xr.drop k).length]):=(by unfold Hid iA jQ;rw [List.length_drop]);have Hj:Hid ((xr.drop k).length<=(jQ k t).2.2):=(by show (xr.drop k).length<=t.2.2-k;rw [List.length_drop];omega);have Hh:Hid ((jQ k t).2.2<=maxLen):=(by show t.2.2-k<=maxLen;unfold maxLen;omega);clear zd tb;go_wp2_with (at_builtin;go_must (refine Z2_ _ rfl _ _ rfl w.heap.size base u7 tagsO (dR k (m.take j)) (jQ k t) (xr.drop k) #[.slice (some ⟨t.1,t.2.1+k,none⟩) (xr.length-k) (t.2.2-k)] 188 rfl HL2 rfl HE0 Hj Hh HR2 HE3 HE4 HE5 HE6 hszr ?_));intro v' w5 o8 hb5 vg;rw [<- HN.out] at o8;have HB5:=oA o8;have HX5:=oA (Below.trans HE2 hb5);have DN:Hid (∀ b,b∈(tagsO++[jQ k t]).map (·.1)->b∈(tags.take (j+1)).map (·.1)):=fun b hb=>by
     rw [List.map_append] at hb;rcases List.mem_append.1 hb with hb | hb;·exact DQ b (pI b hb)
     ·simp only [List.map_cons,List.map_nil,List.mem_singleton] at hb;rw [hb];refine List.mem_map.2 ⟨t,?_,rfl⟩;rw [oH,HTJ.out];simp
    have HV5:Hid (v'=.slice none 0 0/\dR k (m.take (j+1))=[]\/∃ g c,v'=.slice (some ⟨g,0,none⟩) (dR k (m.take (j+1))).length c):=by
     obtain ⟨g,c,hv⟩:=vg.out;refine .inr ⟨g,c,?_⟩;rw [hv,HN.out,oV];rfl
    clear o8 hb5 vg;go_wp2_with fail;go_roundw
    case rel=>exact ⟨j+1,_,by omega,by go_num,HX5,HB5,DN,HV5⟩
    case measure=>simp [intOf];omega
   ·rw [if_neg hle,List.append_nil] at HN;obtain ⟨ld,qw⟩:=oZ (fG xr);rw [qw] at hle HLD;clear qw;go_wp2_with fail;refine HLD.mono ?_;rintro e w2 ⟨rfl,hE2⟩;have HE2:=oA (aA.trans HE hE2);have HL2:=oA (HL.ext hE2);clear hE2 HLD;rw [<- HN.out] at HL2 HV;go_wp2_with fail;go_roundw
    case rel=>exact ⟨j+1,tagsO,by omega,by go_num,HE2,HL2,fun b hb=>DQ b (pI b hb),HV⟩
    case measure=>simp [intOf];omega
  ·obtain rfl:j=m.length:=(by omega);have hL:=HL.out;have hV:=HV.out;rw [List.take_length] at hL hV;have hr:=HR.out;unfold dx at hr;cases hcl:b9 cols F cols 0 0 (dR k m) with
   | none=>rw [hcl] at hr;cases hr
   | some rr =>
   obtain ⟨mf,d⟩:=rr;rw [hcl] at hr;have HRR:Hid (mf.take d=R):=oM hr;have HCL:=oA hcl;have ry:(dR k m).length<=m.length:=(by unfold dR;rw [List.length_map];exact List.length_filter_le _ _);rcases hV with ⟨rfl,CT⟩ | ⟨g,cc,rfl⟩
   ·have yY:Hid (R=[]):=by
     unfold Hid;rw [<- HRR.out];have h0:=HCL.out;rw [CT] at h0;have:mf=[]:=by
      have hh:b9 cols F cols 0 0 []=some ([],0):=by
       cases cols with
       | zero=>rfl
       | succ q=>unfold b9;rw [if_neg (by simp)]
      rw [hh] at h0;simp only [Option.some.injEq,Prod.mk.injEq] at h0;exact h0.1.symm
     rw [this];simp
    have HBW:=oA (Below.mono HE rP);clear hL hr hcl HL pI HV hE CT ry;go_wp2_with fail;refine q_ (Z40 cols _) ?_;go_wp2_with fail;go_ret;rw [yY.out];exact ⟨_,rfl,⟨none,0,rfl,oK _,Nat.zero_le _,.inl rfl⟩,HBW⟩
   ·obtain ⟨qT,hc2,Ae,hbb⟩:=hL.mat rP;have HBW:=oA (Below.mono HE rP);have HFM:=oA (y5_ cols F cols (dR k m) tagsO g cc base wo (mf,d) qT HCL hc2 Ae (oK _) (by omega) (HT.ext HE) HB hbb (oJ rP HE.size));have HC2:=oA hc2;have HBB:=oA hbb;have hszw:=HE.size;clear hL hr hcl HL pI HV hE qT hc2 hbb;go_wp2_with fail;refine HFM.mono ?_;rintro e w2 ⟨tags',rfl,As,sG,sw,hG⟩;have HFA:=oA As;have HB2:Hid (Below base w w2):=Below.trans HBW (hG.below (oJ rP hszw) HBB);have HLE:Hid (d<=mf.length/\mf.length<=cc):=⟨by rw [sG];exact sw,by rw [sG];exact HC2⟩;clear As hG HFM;go_wp2_with fail;go_ret;refine ⟨.slice (some ⟨g,0,none⟩) d cc,rfl,?_,HB2⟩;have qw:R.length=d:=(by rw [<- HRR.out,oG];have:=HLE.1;omega);refine ⟨some ⟨g,0,none⟩,cc,by rw [qw],by rw [qw];have:=HLE.out;omega,Ae,.inr ⟨g,tags'.take d,rfl,by rw [<- HRR.out];exact HFA.1.take d,fun b hb=>?_⟩⟩;rcases List.mem_cons.1 hb with rfl | hb;·exact HBB _ (List.mem_cons_self ..)
    ·obtain ⟨t,ht,rfl⟩:=List.mem_map.1 hb;exact HBB _ (List.mem_cons_of_mem _ (HFA.2 _ (List.mem_map.2 ⟨t,List.mem_of_mem_take ht,rfl⟩)))
theorem Z3C (n:Nat) (w:World) (hn:n<=1000) (ht:ae w) :
  Calls prog 156 #[.int .i64 n] w fun e w'=>∃ g c,e=.returned (.slice (some ⟨g,0,none⟩) n c)/\ag w' g 0 (List.replicate n 0)/\w.heap.size<=g/\n<=c/\c<=maxLen/\aA w w':=by
 obtain ⟨i0,hi,pJ,hz1,hz2⟩:=info_parts jy;have HI:=oA hi;have HZ0:=oA pJ;have HZ1:=oA hz1;have HZ2:=oA hz2;have HT:=oA ht;clear hi pJ hz1 hz2 ht
 go_enter func156,ntmps156
 go_wp2_with (at_make;refine wpList_make_full _ rfl _ _ 27 rfl w.heap.size 3 i0 (.int .i64 0) 1 underlying27 HI HZ0 HZ1 _ _ _ _ n rfl rfl rfl rfl ?c1 ?c2 ?c3 ?_)
 case c1=>rw [HZ2.out];omega
 case c2=>unfold maxLen;omega
 case c3=>exact oK _
 intro w1 hown oo;have hE1:=iO oo;have HE1:=oA hE1;rw [I3_] at hown;have hrl:(List.replicate n (0:Int)).length=n:=by simp
 have hI:bL w1 (.slice (some ⟨w.heap.size,0,none⟩) n n) (List.replicate n 0):=by
  have h2:=hown;have h3:w1.ownsRow w.heap.size 3 1 (.slice (some ⟨w.heap.size,0,none⟩) n n) (List.replicate n (0:Int)).length ((List.replicate n (0:Int)).map (Value.int .i64)):=by rw [hrl];exact h2
  exact bL.of_owns h3 (fun x hx=>by rw [List.eq_of_mem_replicate hx];omega)
 have HL:=oA (C2_ (List.replicate n 0) _ w1 hI (by rw [hrl];exact hn) (HT.ext hE1));rw [hrl] at HL;clear hown oo hE1 hI hrl;go_wp2_with fail;refine HL.mono ?_;rintro e w2 ⟨g,c,rfl,hR,hg,hc,hc2,hE2⟩;have HR:=oA hR;have HE2:=oA (aA.trans HE1 hE2);have hgs:w.heap.size<=g:=oJ HE1.size hg;clear hR hE2 HL hg;go_wp2_with fail;go_ret;exact ⟨g,c,rfl,HR,hgs,hc,hc2,HE2⟩
theorem O6_ (w:World) {ops:Array Oper} {rest:List Oper} {o:Oper} {a:Act} {Q:Exit->Act->World->Prop} (pq:o.guard=none)
  (s x:Operand) (ho:o.op=Op.call { callee:=Callee.builtin Builtin.append,args:=#[s,x],argTypes:=#[188,188] }) (base:Nat)
  (v:Value) (xs ys:og) (hs:a.eval s=v) (hB:aU w base 53 1 v jn xs) (g c n:Nat) (hn:ys.length=n) (hx:a.eval x=.slice (some ⟨g,0,none⟩) n c) (hR:ag w g 0 ys)
  (hlen:xs.length+n<1000000) (hpos:1<=n) (o6:base<=w.heap.size)
  (h:∀ w' gr cr,ag w' gr 0 (xs++ys)->base<=gr->xs.length+n<=cr->cr<=maxLen->Below base w w'->wpList prog ops Q rest (a.put o.dst (.slice (some ⟨gr,0,none⟩) (xs.length+n) cr)) w') :
  wpList prog ops Q (o::rest) a w:=by
 refine wpList_plain pq fun K hK=>?_;subst hn;obtain ⟨i0,hi,hz,o9,hby⟩:=info_parts y9_;have pU:∀ j,(⟨g,0,none⟩:Addr).add j=⟨g,0+j,none⟩:=by intro j;unfold Addr.add;split <;> simp_all
 have hbig:=hB.bigs;refine ig w s x 188 ho base 53 i0 (.string ⟨#[]⟩) 1 16 underlying188 hi hz o9 hby rfl (by decide) v xs.length (xs.map fun x=>Value.string (aB x)) hs hbig ⟨g,0,none⟩ ys.length c (ys.map fun x=>Value.string (aB x)) hx (by simp) ?_ ?_ ?_ ?_ o6 ?_
 ·intro j q hq;rw [oF] at hq;cases hy:ys[j]? with
  | none=>rw [hy] at hq;cases hq
  | some y =>
   rw [hy] at hq;rw [pU,hR.cell j y hy];exact congrArg some (oM hq)
 ·intro u hu;obtain ⟨y,-,rfl⟩:=List.mem_map.1 hu;rfl
 ·unfold maxLen;omega
 ·omega
 ·intro v' w' hown oo _ qF;have qh:w'.ownsRow base 53 1 v' (xs++ys).length ((xs++ys).map fun x=>Value.string (aB x)):=by
   rw [oV,List.map_append];exact hown
  obtain ⟨gr,cr,rfl,-⟩:=gF qh (by rw [oV];omega);obtain ⟨k1,k2,k3,k4⟩:=ag.of_owns qh;rw [oV] at k3;rw [oV];refine hK _ _ (h w' gr cr k1 k2 k3 k4 ⟨oo.os,oo.tape,oo.output,oo.size,fun b hb=>oo.block b (by omega) ?_⟩);intro e;have:=(hbig.lt b e.symm).1;omega
theorem Z0G (F cols:Nat) (m:oe) (ad:Option Addr) (cap:Nat) (w:World) (R:oe) (hM:m=[]\/∃ g0 tags,ad=some ⟨g0,0,none⟩/\bM w g0 tags m) (hrow:bH cols m=true) (h:oe) (hF:dx (m.length+cols) F (m.length+cols) (bI cols m)=some h) (hok:bH (m.length+cols) h=true) (hR:dx cols F cols (dR m.length h)=some R)
  (pk:m.length<=cap) (pN:cap<=maxLen) (hm:m.length+cols<=1000) (pK:1<=cols) (ht:ae w) (hb:4<w.heap.size) :
  Calls prog 104 #[.slice ad m.length cap,.int .i64 cols] w fun e w'=>∃ v,e=.returned v/\dP w' w.heap.size v R/\aA w w':=by
 have HM:=oA hM;have HRW:=oA hrow;have HR:=oA hR;have HF:=oA hF;have HOK:=oA hok;have HT:=oA ht;have HB:=oA hb;unfold maxLen at pN;clear hM hrow hR ht hb hF hok
 go_enter func104,ntmps104
 go_wp2_with fail
 go_loopw [5,12] (fun out t wr=>∃ (c:Nat) (tagsO:List (Nat×Nat×Nat)),c<=cols/\t=.int .i64 c/\aA w wr/\Hid (eA wr w.heap.size w.heap.size out tagsO ((bI cols m).take c))/\Hid (out=.slice none 0 0/\c=0\/∃ g k,out=.slice (some ⟨g,0,none⟩) c k)) (fun _ t _=>cols-(intOf t).toNat)
 case atStart=>exact ⟨0,[],by omega,rfl,aA.refl _,eA.nil _ _ _,.inl ⟨rfl,rfl⟩⟩
 case round =>
  obtain ⟨c,tagsO,hc,rfl,hE,HL,HV⟩:=hrel;obtain ⟨wo,rfl⟩:∃ wo:World,wo=wr:=⟨_,rfl⟩;have HE:=oA hE;by_cases hlt:c<cols
  ·have Hm:Hid ((bI cols m).take (c+1)=(bI cols m).take c++[m.map (fun r=>r.getD c 0)++(List.replicate cols (0:Int)).set c 1]):=by
    unfold Hid bI;rw [<- List.map_take,<- List.map_take,oH,List.map_append,List.getElem?_range hlt];rfl
   clear hE;go_wp2_with fail
   go_loopw [7,17] (fun r t wq=>∃ i:Nat,i<=m.length/\t=.int .i64 i/\aA wo wq/\Hid (aU wq wo.heap.size 53 1 r jn ((m.map (fun r=>r.getD c 0)).take i))) (fun _ t _=>m.length-(intOf t).toNat)
   case atStart=>exact ⟨0,by omega,rfl,aA.refl _,⟨[],rfl,by simp,World.ownsRow_nil _ _ _ _,by simp⟩⟩
   case round =>
    obtain ⟨i,hi,rfl,yW,sQ⟩:=hrel;obtain ⟨wp,rfl⟩:∃ wp:World,wp=wr:=⟨_,rfl⟩;have HEq:=oA yW;by_cases hil:i<m.length
    ·obtain ⟨g0,tags,rfl,qT⟩:∃ g0 tags,ad=some ⟨g0,0,none⟩/\bM w g0 tags m:=by
      rcases HM.out with h0 | h0;·rw [h0] at hil;simp at hil
      ·exact h0
     obtain ⟨t,BP,c1,c2,c3,c4,c5⟩:=(qT.ext (aA.trans HE yW)).get i hil;clear qT;obtain ⟨hxl,hxs⟩:=eZ HRW i hil;have HN:Hid ((m.map (fun r=>r.getD c 0)).take (i+1)=(m.map (fun r=>r.getD c 0)).take i++[(aD m i).getD c 0]):=by
      unfold Hid;rw [oH,oF,eE hil];rfl
     have HJ:Hid (((m.map (fun r=>r.getD c 0)).take i).length<1000000):=(by unfold Hid;rw [oG];omega);obtain ⟨xr,px⟩:=oZ (aD m i);rw [px] at c1 c2 c4 hxl HN;have hcx:c<xr.length:=(by omega);have g2:=c4.cell c (xr.getD c 0) (by rw [oD,oB hcx];rfl);obtain ⟨x,hx⟩:=oZ (xr.getD c 0);rw [hx] at g2 HN;unfold maxLen at c3;have hszq:=yW.size;clear BP c4 c5 hxs px hx yW;go_wp2_with (at_builtin;go_must (refine eM _ rfl _ _ 188 rfl wo.heap.size 53 (.string ⟨#[]⟩) 1 16 underlying188 y9_ rfl (by decide) u7 jn ((m.map (fun r=>r.getD c 0)).take i) x #[.string (aB x)] 53 rfl sQ.out rfl rfl ?e1 (fun _ _=>rfl) HJ.out (by decide) hszq ?_))
     case e1=>simp [Value.oneCell']
     intro v' w5 o8 pS hb5 qu _;have o8:aU w5 wo.heap.size 53 1 v' jn ((m.map (fun r=>r.getD c 0)).take (i+1)):=(by rw [HN.out];exact o8);have HB5:=oA o8;have HX5:=oA (Below.trans HEq hb5);clear o8 pS hb5;go_wp2_with fail;go_roundw
     case rel=>exact ⟨i+1,by omega,by go_num,HX5,HB5⟩
     case measure=>simp [intOf];omega
    ·obtain rfl:i=m.length:=(by omega);have hB:=sQ.out;rw [List.take_of_length_le (by simp)] at hB;have HBL:=oA hB;have HEL:=oA (aA.trans HE HEq);have HLL:=oA (HL.ext HEq);have HZ:=oA (Z3C cols wp (by omega) (HT.ext HEL));have hs0:=HE.size;have hs1:=HEq.size;clear hB sQ yW;go_wp2_with fail;refine HZ.mono ?_;rintro e w2 ⟨gz,cz,rfl,wU,D6,NC,LB,hE2⟩;have EG:aB 1=⟨#[49]⟩:=(by kernel_rfl);have HE3:Hid (aA wp (w2.setCell ⟨gz,c,none⟩ (.string (aB 1)))):=Below.trans hE2 ((aG.setCell (S:=(·=gz)) (aG.ofExt (aA.refl w2)) rfl c (.string (aB 1))).below hE2.size (fun k hk=>by rw [hk];exact D6));have hRS:=wU.set c (by simpa using hlt) 1;have gz1:=wU.cell c 0 (by rw [List.getElem?_replicate,if_pos hlt]);have gz2:=wU.free c;rw [Nat.zero_add] at gz1 hRS;rw [EG] at HE3 hRS;have HRZ:=oA hRS;have HB3:=oA (HBL.ext HE3);have HL3:=oA (HLL.ext HE3);have hs3:=HE3.size;clear wU HZ hRS hE2;go_wp2_with (at_builtin;go_must (refine O6_ _ rfl _ _ rfl wo.heap.size u7 _ _ rfl HB3 gz cz cols ?n1 rfl HRZ ?n2 pK ?n3 ?_))
     case n1=>simp
     case n2=>simp;omega
     case n3=>omega
     intro w4 gr cr yv hgr sJ Ac hb4;have HR4:=oA yv;have HE4:=oA (Below.trans (aA.trans HEq HE3) hb4);have HEX:=oA (aA.trans HE HE4);have HL4:=oA (HL.ext HE4);have hszr:=HEX.size;have HLN:Hid ((m.map (fun r=>r.getD c 0)++(List.replicate cols (0:Int)).set c 1).length=m.length+cols):=(by unfold Hid;simp);have HJ:Hid (((bI cols m).take c).length=c):=(by unfold Hid bI;rw [oG];simp;omega);have HV1:Hid (u5.ownBlock≠some gr):=fun e=>by have:=(HL.own.lt gr e).2;omega
     have HN1:Hid (gr∉tagsO.map (·.1)):=fun hm=>by
      obtain ⟨t,ht,e⟩:=List.mem_map.1 hm;obtain ⟨i,hi⟩:=List.getElem?_of_mem ht;have hl:i<((bI cols m).take c).length:=(by rw [<- HL.out.len];exact (oC.1 hi).1);have:=(HL.row i t _ hi (oB hl)).2.2.1.lt;omega
     have HE0:Hid (#[Value.slice (some ⟨gr,0,none⟩) (m.length+cols) cr]=#[iA (gr,0,cr) (m.map (fun r=>r.getD c 0)++(List.replicate cols (0:Int)).set c 1).length]):=(by unfold Hid iA;rw [HLN.out]);have HC:Hid ((m.map (fun r=>r.getD c 0)++(List.replicate cols (0:Int)).set c 1).length<=cr):=by
      unfold Hid;rw [HLN.out];simpa using sJ
     have HGR:Hid (w.heap.size<=gr):=(by unfold Hid;omega);have G0:Hid (((bI cols m).take c).length<1000000):=(by unfold Hid;rw [HJ.out];omega);clear yv hb4 sJ;go_wp2_with (at_builtin;go_must (refine Z2_ _ rfl _ _ rfl w.heap.size w.heap.size u5 tagsO ((bI cols m).take c) (gr,0,cr) (m.map (fun r=>r.getD c 0)++(List.replicate cols (0:Int)).set c 1) #[.slice (some ⟨gr,0,none⟩) (m.length+cols) cr] 188 rfl HL4 rfl HE0 HC Ac HR4 HGR HV1 HN1 G0 hszr ?_));intro v' w5 o8 hb5 vg;have o8:eA w5 w.heap.size w.heap.size v' (tagsO++[(gr,0,cr)]) ((bI cols m).take (c+1)):=(by rw [Hm.out];exact o8);have HB5:=oA o8;have HX5:=oA (Below.trans HEX hb5);have HV5:Hid (v'=.slice none 0 0/\c+1=0\/∃ g k,v'=.slice (some ⟨g,0,none⟩) (c+1) k):=by
      obtain ⟨g,k,hv⟩:=vg.out;refine .inr ⟨g,k,?_⟩;have hj:=HJ.out;rw [oG] at hj;rw [hv];first | rw [hj] | rw [HJ.out] | (simp only [oG];rw [hj])
     clear o8 hb5 vg;go_wp2_with fail;go_roundw
     case rel=>exact ⟨c+1,_,by omega,by go_num,HX5,HB5,HV5⟩
     case measure=>simp [intOf];omega
  ·obtain rfl:c=cols:=(by omega);have hwl:(bI c m).length=c:=(by unfold bI;simp);have hL:=HL.out;rw [List.take_of_length_le (by omega)] at hL;rcases HV.out with ⟨-,h0⟩ | ⟨g,cc,rfl⟩
   ·omega
   rw [<- hwl] at hL;have hf:=HF.out;unfold dx at hf;cases hcl:b9 (m.length+c) F (m.length+c) 0 0 (bI c m) with
   | none=>rw [hcl] at hf;cases hf
   | some rr =>
   obtain ⟨mf,d⟩:=rr;rw [hcl] at hf;have HRR:Hid (mf.take d=h):=oM hf;have yV:eA wo w.heap.size w.heap.size (.slice (some ⟨g,0,none⟩) (bI c m).length cc) tagsO (bI c m):=by
    rw [hwl] at hL |-;exact hL
   obtain ⟨qT,hc2,Ae,hbb⟩:=yV.mat (oK _);have HFM:=oA (y5_ (m.length+c) F (m.length+c) (bI c m) tagsO g cc w.heap.size wo (mf,d) qT hcl hc2 Ae (oK _) (by omega) (HT.ext HE) HB hbb HE.size);rw [hwl] at HFM hc2;have HBB:=oA hbb;have hszw:=HE.size;clear hL yV hf hcl HL HV hE qT hbb;go_wp2_with fail;refine HFM.mono ?_;rintro e w2 ⟨tags',rfl,As,sG,sw,hG⟩;have HFA:=oA As;have HB2:Hid (aA w w2):=Below.trans HE (hG.below hszw HBB);have hd:h.length=d:=by
    rw [<- HRR.out,oG];have a1:mf.length=c:=sG;have a2:d<=c:=sw;omega
   have a2:d<=c:=sw
   have HBH:=oA (Z0b F c m.length h (tags'.take d) g cc w.heap.size w2 R (by rw [<- HRR.out];exact As.1.take d) HOK HR (by omega) Ae (by omega) pK (by omega) (HT.ext HB2) HB (fun b hb=>by
    rcases List.mem_cons.1 hb with rfl | hb;·exact HBB _ (List.mem_cons_self ..)
    ·obtain ⟨t,ht,rfl⟩:=List.mem_map.1 hb
     exact HBB _ (List.mem_cons_of_mem _ (As.2 _ (List.mem_map.2 ⟨t,List.mem_of_mem_take ht,rfl⟩)))) HB2.size)
   rw [hd] at HBH;clear As hG HFM;go_wp2_with fail;refine HBH.mono ?_;rintro e w3 ⟨v,rfl,I1,pf⟩;have HRM:=oA I1;have HB3:Hid (aA w w3):=Below.trans HB2 pf;clear I1 pf HBH;go_wp2_with fail;go_ret;exact ⟨v,rfl,HRM,HB3⟩
end Go.Proofs.YtjlkkofmojgipaaGreatDoor
