import Derived.Test.YtjlkkofmojgipaaGreatDoorXAV
import Derived.Test.YtjlkkofmojgipaaGreatDoorXAW
import Derived.Test.YtjlkkofmojgipaaGreatDoorXAS
set_option linter.unusedVariables false
set_option linter.unusedSimpArgs false
set_option maxRecDepth 1000000
set_option maxHeartbeats 4000000
namespace Go.Proofs.YtjlkkofmojgipaaGreatDoor
open Go.RowKit Go.Maps Go.Proofs.Tryz
def fK (w w':World):Prop:=w.heap.size<=w'.heap.size/\∀ a v,w.cell? a=some v->(∀ s,v≠.string s)->w'.cell? a=some v
theorem fK.refl (w:World):fK w w:=⟨oJ _,fun _ _ h _=>h⟩
theorem fK.ext {w w' w'':World} (h:fK w w') (he:aC w' w''):fK w w'':=⟨oI h.1 he.size,fun a v hv hs=>he.cell (h.2 a v hv hs)⟩
theorem fK.set {w w':World} {g p:Nat} {X:List Int} {v:ByteArray} (h:fK w w') (hR:dJ w' g X) (hp:p<X.length):fK w (w'.setCell ⟨g,p,none⟩ (.string v)):=by
 refine ⟨by rw [dX];exact h.1,fun a u hu hs=>?_⟩;have h1:=h.2 a u hu hs;have hne:a≠⟨g,p,none⟩:=by
  rintro rfl;rw [hR.cell p _ (n9 hp)] at h1;exact hs _ (oL h1).symm
 rw [World.cell?_setCell_other w' _ _ _ (fun e=>hne e.symm)];exact h1
theorem au.noS {w w':World} {v:Value} {xs:List Int} (h:au w v xs) (hn:fK w w'):au w' v xs:=by
 obtain ⟨us,h1,h2,⟨a,cap,rfl,q1,q2,q3,q4⟩,h4⟩:=h;refine ⟨us,h1,h2,⟨a,cap,rfl,q1,q2,q3,fun hne=>?_⟩,fun j u x hu hx=>h4 j u x hu hx⟩;obtain ⟨b,off,ha,hb,hc⟩:=q4 hne;refine ⟨b,off,ha,oH hb hn.1,fun j u hu=>?_⟩;refine hn.2 _ _ (hc j u hu) fun s e=>?_;obtain ⟨l,hl,sZ⟩:=List.mem_flatten.1 (oD hu);obtain ⟨i,hi⟩:=List.getElem?_of_mem hl;obtain ⟨x,hx⟩:∃ x,xs[i]?=some x:=⟨_,n9 (by rw [<- h1];exact (n_.1 hi).1)⟩;have h5:=(h4 i l x hi hx).1;rw [h5,List.mem_singleton] at sZ;rw [sZ] at e;cases e
theorem Z4t {w w':World} {v:Value} {xss:List (List Int)} (h:bQ w v xss) (hn:fK w w'):bQ w' v xss:=by
 obtain ⟨us,h1,h2,⟨a,cap,rfl,q1,q2,q3,q4⟩,h4⟩:=h;refine ⟨us,h1,h2,⟨a,cap,rfl,q1,q2,q3,fun hne=>?_⟩,fun j u x hu hx=>?_⟩
 ·obtain ⟨b,off,ha,hb,hc⟩:=q4 hne;refine ⟨b,off,ha,oH hb hn.1,fun j u hu=>?_⟩;refine hn.2 _ _ (hc j u hu) fun s e=>?_;obtain ⟨l,hl,sZ⟩:=List.mem_flatten.1 (oD hu);obtain ⟨i,hi⟩:=List.getElem?_of_mem hl;obtain ⟨x,hx⟩:∃ x,xss[i]?=some x:=⟨_,n9 (by rw [<- h1];exact (n_.1 hi).1)⟩;obtain ⟨v,hv,pt⟩:=h4 i l x hi hx;rw [hv,List.mem_singleton] at sZ;obtain ⟨ag,cg',yQ,-⟩:=aI.open pt;rw [sZ,yQ] at e;cases e
 ·obtain ⟨v,hv,pt⟩:=h4 j u x hu hx;exact ⟨v,hv,pt.noS hn⟩
theorem Y7_ {ops:Array Oper} {o:Oper} {a:Act} {K:Act->World->Prop} {Q:Exit->Act->World->Prop} {E:Prop} (pf:o.guard=none) (w:World) (s x:Operand) (T2:TypeId) (wE:prog.underlying T2=some (TypeDesc.slice 3)) (ho:o.op=.call { callee:=.builtin .append,args:=#[s,x],argTypes:=#[T2,T2] }) (B:Nat)
  (v:Value) (l ys:List Int) (u:Value) (hs:a.eval s=v) (hB:cS B w v l) (hx:a.eval x=u) (hu:au w u ys) (hlen:l.length+ys.length<1000000) (ow:B<=w.heap.size)
  (h:∀ v' w',cS B w' v' (l++ys)->Below B w w'->K (a.put o.dst v') w'):if Region.wanted o (yielded ops a.tmps)=true then Oper.wp prog o a w K Q else E:=by
 rw [if_pos (by unfold Region.wanted;rw [pf])];obtain ⟨ad,c,rfl,h1,h2,h3,hb,hc⟩:=hu.open;obtain ⟨i0,hi,pH,hz1,hz2⟩:=info_parts kJ;cases ad with
 | none =>
  have h0:ys=[]:=by have:=h3 rfl;exact List.eq_nil_of_length_eq_zero (by omega)
  subst h0;obtain rfl:c=0:=h3 rfl;have hrun:=run_append_owned_none (P:=prog) (w:=w) B T2 o.type 3 i0 1 wE hi v l.length (l.map (Value.int .i64 ·)) hB;unfold Oper.wp;simp [execOp,ho,resolve,invoke,builtin,hs,hx,hrun,Result.andThen];exact h _ _ (by rw [List.append_nil];exact hB) (Below.refl _ _)
 | some ad =>
  have rG:∀ (j:Nat) (u:Value),(ys.map (Value.int .i64))[j]?=some u->w.cell? (ad.add j)=some u:=by
   intro j u hu;rw [oE] at hu;cases hj:ys[j]? with
   | none=>simp [hj] at hu
   | some x =>
    simp [hj] at hu;subst hu;obtain ⟨b,off,qF,Ab,hcell⟩:=hc (by intro e;simp [e] at hj);cases qF;have:=hcell j x hj;rw [show (⟨b,off,none⟩:Addr).add j=⟨b,off+j,none⟩ by unfold Addr.add;split <;> simp_all];exact this
  refine jc w s x T2 ho B 3 i0 (.int .i64 0) 1 8 wE hi pH hz1 hz2 rfl (by decide) v l.length (l.map (Value.int .i64 ·)) hs hB ad ys.length c (ys.map (Value.int .i64)) hx (by simp) rG (ints_oneCell _ _) (by unfold maxLen;omega) (by omega) ow ?_;intro v' w' pw oe _ _;refine h v' w' (by simpa [cS] using pw) (Below.grown (Below.refl _ _) oe ow (by intro k hk;exact (hB.lt k hk).1))
theorem p8_ {n ka kb:Nat} {A B:List Int} (hn:n<6) (hA:eB n ka A) (hB:eB n kb B) (hk:ka+kb<=n) (u v:Value) (w:World) (h:cL w u n ka A) (hv:cL w v n kb B) (ht:af w) :
  Calls prog 43 #[u,v] w fun e w'=>∃ g cg,e=.returned (.agg #[.int .i64 n,.int .i64 ((ka+kb:Nat):Int),.slice (some ⟨g,0,none⟩) (gh n ka kb A B).length cg])/\aC w w'/\w.heap.size<=g/\(gh n ka kb A B).length<=cg/\cg<=9223372036854775807/\dJ w' g (gh n ka kb A B):=by
 obtain ⟨ua,rfl,Ik⟩:=h;obtain ⟨ub,rfl,yR⟩:=hv;obtain ⟨a,ca,rfl,a1,a2,-,ac⟩:=bT.open (eP.of_nums Ik);obtain ⟨b,cb,rfl,b1,b2,-,bc⟩:=bT.open (eP.of_nums yR);unfold maxLen at a2 b2;have HAC:=n8 ac;have HBC:=n8 bc;have HAR:=n8 hA;have HBR:=n8 hB;have HT:=n8 ht;have HN:=n8 hn;obtain ⟨ma,hma⟩:∃ m,A.length=m:=⟨_,rfl⟩;obtain ⟨mb,hmb⟩:∃ m,B.length=m:=⟨_,rfl⟩;have HMA:=n8 hma;have HMB:=n8 hmb;rw [hma] at a1 |-;rw [hmb] at b1 |-;obtain ⟨w1,o4,hE1,hs1,hb1⟩:=eT w (.int .i64 n) (.int .i64 ka) (.slice a ma ca);obtain ⟨w2,pZ,oY,hs2,hb2⟩:=eT w1 (.int .i64 n) (.int .i64 kb) (.slice b mb cb);obtain ⟨w3,hw3,oh,hs3,hb3⟩:=eT w2 (.int .i64 0) (.int .i64 0) (.slice none 0 0);have HE3:=n8 ((hE1.trans oY).trans oh);have HB1:=n8 (aO hb1 (oY.trans oh));have HB2:=n8 (aO hb2 oh);have HB3:=n8 hb3;have HSZ:Hid (w1.heap.size=w.heap.size+1/\w2.heap.size=w1.heap.size+1/\w3.heap.size=w2.heap.size+1):=⟨hs1,hs2,hs3⟩;have k1:=aN HB1;have k2:=aN HB2;obtain ⟨d,hd⟩:∃ d,ka+kb=d:=⟨_,rfl⟩;have HD:=n8 hd;have e1:IntKind.i64.wrap ((ka:Int)+(kb:Int))=(d:Int):=by rw [IntKind.wrap_i64];omega
 have pI:d<=n:=by omega
 obtain ⟨D,hD⟩:∃ D,gh n ka kb A B=D:=⟨_,rfl⟩;have HDD:=n8 hD;rw [hD,hd];have hHA:=hA.kn;have hHB:=hB.kn;have HHA:=n8 hHA;have HHB:=n8 hHB;have HDN:=n8 pI;have vR:Hid (∀ k,k<=n->∀ W,Calls prog 33 #[.int .i64 (n:Int),.int .i64 (k:Int)] W fun e w'=>∃ a6 c6,e=.returned (.slice a6 (aJ n k).length c6)/\bQ w' (.slice a6 (aJ n k).length c6) (bV (bH n k))/\aC W w'):=fun k hk W=>(nd n k (by have:=HN.out;omega) hk W).mono fun e w' ⟨v,h1,h2,h3⟩=>by
  obtain ⟨a6,c6,rfl,-⟩:=aI.open h2;have hl:(bV (bH n k)).length=(aJ n k).length:=by unfold bV;rw [List.length_map,<- mi n (by have:=HN.out;omega) k (by omega)]
  rw [hl] at h1 h2;exact ⟨a6,c6,h1,h2,h3⟩
 have G9:Hid (∀ W,Calls prog 66 #[.int .i64 n,.int .i64 d] W _):=fun W=>x9_ n d (by have:=HN.out;omega) pI W;obtain ⟨z,hz⟩:∃ z,(aJ n d).length=z:=⟨_,rfl⟩;obtain ⟨N1,Bs⟩:∃ z,(aJ n ka).length=z:=⟨_,rfl⟩;obtain ⟨N2,Gu⟩:∃ z,(aJ n kb).length=z:=⟨_,rfl⟩;have HZ:=n8 hz;have HN1:=n8 Bs;have HN2:=n8 Gu;rw [hz] at G9;have HS1:=n8 (vR ka hHA);have HS2:=n8 (vR kb hHB);have HS3:=n8 (vR d pI);rw [Bs] at HS1;rw [Gu] at HS2;rw [hz] at HS3;clear hb1 hb2 hb3 hE1 oY oh Ik yR hs1 hs2 hs3 hA hB hma hmb hD hd ac bc ht hk vR hz Bs Gu hHA hHB
 go_enter func43,ntmps43
 go_wp2_with fail;refine (G9 w3).mono ?_;rintro e w4 ⟨g,cg,rfl,hRN,hgl,hgr,yB,JE,h4⟩;have HRN4:=n8 hRN;have HGC:=n8 yB;have HGM:=n8 JE;have HGL:=n8 hgl;have HGR:=n8 hgr;have HE4:Hid (aC w3 w4):=h4;obtain ⟨w5a,yP,ou,rB,hb5⟩:=eT w4 (.int .i64 0) (.int .i64 0) (.slice none 0 0);have HE5:=n8 ou;have HB5:=n8 hb5;have f5:=cD hb5;have k5:=aN hb5;clear hRN hgl hgr yB JE h4 G9 ou rB hb5 k1 k2 o4 pZ hw3
 go_upto_region 2 with fail
 generalize pO:World.setCell _ _ _=w5;have D7:Hid (w5.heap[w4.heap.size]?=some (.cells #[.int .i64 n,.int .i64 d,.slice (some ⟨g,0,none⟩) z cg] 37 (0,0))):=by rw [<- pO];exact gu HB5 _ _ _
 have xa:Hid (aC w4 w5):=by rw [<- pO];exact dW HE5 (oJ _) _ _ _
 have yo:Hid (aC w3 w5):=HE4.trans xa;have HB15:=n8 (aO HB1 yo);have HB25:=n8 (aO HB2 yo);have HB35:=n8 (aO HB3 yo);have HR5:=n8 (HRN4.ext xa);clear pO yP k5 f5;obtain ⟨x1,pq⟩:∃ x,w1.heap.size=x:=⟨_,rfl⟩;obtain ⟨x2,rQ⟩:∃ x,w2.heap.size=x:=⟨_,rfl⟩;obtain ⟨x4,E5⟩:∃ x,w4.heap.size=x:=⟨_,rfl⟩;have HOO:Hid (w.heap.size<x1/\x1<x2/\x2<g/\g<x4/\w3.heap.size<=g):=by have:=HSZ.out;have:=HGL.out;have:=HGR.out;unfold Hid;omega
 rw [pq] at HB25;rw [rQ] at HB35;rw [E5] at D7
 (try rw [pq]);(try rw [rQ]);(try rw [E5])
 clear pq rQ E5;have c0:=aN HB15 0;have c1:=aN HB15 1;have c2:=aN HB25 0;have c3:=aN HB25 1;simp only [oQ,oO,oP] at c0 c1 c2 c3;refine fX (fun w'=>w'.cell? ⟨w.heap.size,0,none⟩=some (.int .i64 n)/\w'.cell? ⟨w.heap.size,1,none⟩=some (.int .i64 ka)/\w'.cell? ⟨x1,0,none⟩=some (.int .i64 n)/\w'.cell? ⟨x1,1,none⟩=some (.int .i64 kb)/\Hid (aC w5 w')) 12 12 (by kernel_rfl) (by kernel_rfl) ⟨(aC.drew w5).cell c0,(aC.drew w5).cell c1,(aC.drew w5).cell c2,(aC.drew w5).cell c3,aC.drew w5⟩ (fun ops hO oX=>?_);refine rA [0,1,2,3,5,6,7,8] ?_
 iterate 8 (refine rS hO (by decide) fun o h=>?_;(conv at h=>lhs;whnf);subst h;(refine rY hO (v:=?_) (Or.inl ⟨by rfl,?_⟩) ?_;rotate_left;·((intro w' oz);(try dsimp only at oz);(try go_simp);(try with_reducible rfl)));(try simp only [Act.put,aK,aL,aM]))
 refine rE ?_;have hi:=a8 hO 4 (by decide)
 conv at hi=>rhs;arg 1;whnf
 refine dK hO 4 (by kernel_rfl) hi (fun K hK=>?_);go_simp
 (go_at_call 33;refine (HS1 _).mono ?_)
 rintro e IV ⟨s1,q1,rfl,vn,om⟩;have HR1:=n8 vn;have HY1:Hid (aC w5.drew IV):=om;go_wp2_with fail;refine hK _ _ ⟨(om).cell oX.1,(om).cell oX.2.1,(om).cell oX.2.2.1,(om).cell oX.2.2.2.1,aC.trans oX.2.2.2.2 (om)⟩ (fun oX=>?_);clear hK K hi
 (try simp only [Act.put,aK,aL,aM])
 have hi:=a8 hO 9 (by decide)
 conv at hi=>rhs;arg 1;whnf
 refine dK hO 9 (by kernel_rfl) hi (fun K hK=>?_);go_simp
 (go_at_call 33;refine (HS2 _).mono ?_)
 rintro e E0 ⟨s2,q2,rfl,hR2,om⟩;have HR2:=n8 hR2;have A0:Hid (aC IV E0):=om;go_wp2_with fail;refine hK _ _ ⟨(om).cell oX.1,(om).cell oX.2.1,(om).cell oX.2.2.1,(om).cell oX.2.2.2.1,aC.trans oX.2.2.2.2 (om)⟩ (fun oX=>?_);clear hK K hi
 (try simp only [Act.put,aK,aL,aM])
 have hi:=a8 hO 10 (by decide)
 conv at hi=>rhs;arg 1;whnf
 refine tX hO (v:=?_) 10 hi (Or.inl ⟨by rfl,?_⟩) ?_;rotate_left
 ·((intro w');(try go_simp);(try with_reducible rfl))
 clear hi
 (try simp only [Act.put,aK,aL,aM])
 have hi:=a8 hO 11 (by decide)
 conv at hi=>rhs;arg 1;whnf
 refine fp hO 11 (by kernel_rfl) (by kernel_rfl) hi (fun K hK=>?_);go_simp;refine hK _ _ (by assumption) ?_;clear hK K hi hO
 (try simp only [Act.put,aK,aL,aM])
 obtain ⟨c0,c1,c2,c3,HH⟩:=oX;go_wp2_with fail;refine (HS3 E0).mono ?_;rintro e wS ⟨s3,q3,rfl,DQ,oh⟩;have vv:Hid (aC w5 wS):=HH.trans oh;have Ha:Hid (aC w3 wS):=yo.trans vv;have Ey:Hid (aC w wS):=HE3.trans Ha;have HR1S:=n8 (bQ.ext HR1 (A0.trans oh));have HR2S:=n8 (bQ.ext HR2 oh);have HR3S:=n8 DQ;have HB1S:=n8 (aO HB15 vv);have HB2S:=n8 (aO HB25 vv);have HB3S:=n8 (aO HB35 vv);have HBOS:=n8 (aO D7 vv);have HRS:=n8 (HR5.ext vv);clear oh DQ c0 c1 c2 c3 HS1 HS2 HS3;obtain ⟨OP,OK,hv1,m1,M1,-,y1⟩:=bT.open HR1S;obtain ⟨OO,OJ,pt,m2,M2,-,y2⟩:=bT.open HR2S;obtain ⟨ON,OI,yQ,m3,M3,-,-⟩:=bT.open HR3S;have x9:(bV (bH n ka)).length=N1:=by unfold bV;rw [List.length_map,<- mi n (by have:=HN.out;omega) ka (by have:=HHA.out;omega)];exact HN1
 have ve:(bV (bH n kb)).length=N2:=by unfold bV;rw [List.length_map,<- mi n (by have:=HN.out;omega) kb (by have:=HHB.out;omega)];exact HN2
 have yY:(bV (bH n d)).length=z:=by unfold bV;rw [List.length_map,<- mi n (by have:=HN.out;omega) d (by have:=HDN.out;omega)];exact HZ
 rw [x9] at m1 hv1;rw [ve] at m2 pt;rw [yY] at m3 yQ;simp only [Value.slice.injEq] at hv1 pt yQ;obtain ⟨rfl,-,rfl⟩:=hv1;obtain ⟨rfl,-,rfl⟩:=pt;obtain ⟨rfl,-,rfl⟩:=yQ;unfold maxLen at M1 M2 M3;have HY1c:=n8 y1;have HY2c:=n8 y2;have HG1:Hid (∀ W,fK wS W->∀ (i s:Nat),(aJ n ka)[i]?=some s->∃ b o v,s1=some ⟨b,o,none⟩/\W.cell? ⟨b,o+i,none⟩=some v/\au W v (bC (aT s))):=fun W hW i s hs=>by
  have hT:(bV (bH n ka))[i]?=some (bC (aT s)):=by unfold bV;rw [oE,c1_ (by have:=HN.out;omega) HHA.out hs];rfl
  obtain ⟨b,o,he,-,hc⟩:=HY1c (by intro e;rw [e] at hT;simp at hT);obtain ⟨v,hv,hcell⟩:=hc i _ hT;obtain ⟨ag,cg',rfl,-⟩:=aI.open hv;exact ⟨b,o,_,he,hW.2 _ _ hcell (fun s e=>by cases e),hv.noS hW⟩
 have HG2:Hid (∀ W,fK wS W->∀ (i s:Nat),(aJ n kb)[i]?=some s->∃ b o v,s2=some ⟨b,o,none⟩/\W.cell? ⟨b,o+i,none⟩=some v/\au W v (bC (aT s))):=fun W hW i s hs=>by
  have hT:(bV (bH n kb))[i]?=some (bC (aT s)):=by unfold bV;rw [oE,c1_ (by have:=HN.out;omega) HHB.out hs];rfl
  obtain ⟨b,o,he,-,hc⟩:=HY2c (by intro e;rw [e] at hT;simp at hT);obtain ⟨v,hv,hcell⟩:=hc i _ hT;obtain ⟨ag,cg',rfl,-⟩:=aI.open hv;exact ⟨b,o,_,he,hW.2 _ _ hcell (fun s e=>by cases e),hv.noS hW⟩
 have HG3:Hid (∀ W,fK wS W->bQ W (.slice s3 z q3) (bV (bH n d))):=fun W hW=>Z4t HR3S hW;clear y1 y2 x9 ve yY;have hL1:=jI (n:=n) (k:=ka) (by have:=HN.out;omega) HHA;have hL2:=jI (n:=n) (k:=kb) (by have:=HN.out;omega) HHB;have hL3:=jI (n:=n) (k:=d) (by have:=HN.out;omega) HDN;rw [HN1.out] at hL1;rw [HN2.out] at hL2;rw [HZ.out] at hL3;have HL1:=n8 hL1;have HL2:=n8 hL2;have HL3:=n8 hL3;have HPR:Hid (∀ s∈aJ n ka,∀ t∈aJ n kb,(s &&& t=0/\fS (aT s) (aT t)=some (aT (s ||| t))/\(s ||| t)∈aJ n d/\cK s t=eM (aT s++aT t))\/(s &&& t≠0/\fS (aT s) (aT t)=none)):=fun s hs t ht=>by
  have h9:=Z4d (n:=n) HN HHA (by rw [HD.out];exact HDN) hs ht;rw [HD.out] at h9;exact h9
 have Mr:Hid (∀ r∈aJ n d,be n d r=lN (bH n d) (aT r)/\be n d r<z):=fun r hr=>by
  have h9:=S8_ (n:=n) (by have:=HN.out;omega) HDN hr;rw [HZ.out] at h9;exact h9
 have KS:Hid (∀ i,(cV n ka kb A B i).length=z):=fun i=>by rw [V6_,HD.out];exact HZ
 have HRZ:Hid (∀ i k,i<=924->k<=924->∀ x∈db n ka kb A B i (cV n ka kb A B i) k,(aD x).size<=2000):=fun i k hi hk=>Z4r HAR.dig HBR.dig hi hk (by rw [HN2.out];exact HL2);have HST:Hid (∀ i k s t x y acc,(aJ n ka)[i]?=some s->(aJ n kb)[k]?=some t->A[i]?=some x->B[k]?=some y->jZ n ka kb A B i k acc=if s &&& t≠0\/x=0\/y=0 then acc else gM acc (be n d (s ||| t)) (bu (x*y) (cK s t))):=fun i k s t x y acc hs ht hx hy=>by
  have:=Z4w (acc:=acc) hs ht hx hy;rw [HD.out] at this;exact this
 have HLA:Hid (A.length=N1):=by unfold Hid;rw [HAR.out.len,HN1.out]
 have HLB:Hid (B.length=N2):=by unfold Hid;rw [HBR.out.len,HN2.out]
 have HRW:Hid (∀ i,cV n ka kb A B (i+1)=db n ka kb A B i (cV n ka kb A B i) N2):=fun i=>by rw [cV,HN2.out]
 have My:Hid (List.replicate z 0=cV n ka kb A B 0):=by unfold Hid;rw [cV,HD.out,HZ.out]
 have KP:Hid (D=cV n ka kb A B N1):=by unfold Hid;rw [<- HDD.out];unfold gh;rw [HN1.out]
 rw [My.out] at HRS;clear hL1 hL2 hL3;go_wp2_with fail
 go_loopw [9] (fun t wr=>∃ i:Nat,i<=N1/\t=.int .i64 (i:Int)/\Hid (aP (·=g) wS wr)/\Hid (fK wS wr)/\Hid (dJ wr g (cV n ka kb A B i))) (fun t _=>N1+1-(intOf t).toNat)
 case atStart=>exact ⟨0,by omega,by simp,aP.refl _ _,fK.refl _,HRS⟩
 case round =>
  obtain ⟨i,hi,rfl,HG,HNS,HGB⟩:=hrel;obtain ⟨wi,rfl⟩:∃ wi:World,wi=wr:=⟨_,rfl⟩;by_cases hlt:i<N1
  ·obtain ⟨s,hs⟩:∃ s,(aJ n ka)[i]?=some s:=⟨_,n9 (by rw [HN1.out];exact hlt)⟩;obtain ⟨x,hx⟩:∃ x,A[i]?=some x:=⟨_,n9 (by rw [HLA.out];exact hlt)⟩;have HS:=n8 hs;have HXX:=n8 hx;have hin:(i:Int)<(N1:Int):=by omega
   clear hs hx;go_wp2_with fail
   go_loopw [10] (fun t wr=>∃ k:Nat,k<=N2/\t=.int .i64 (k:Int)/\Hid (aP (·=g) wS wr)/\Hid (fK wS wr)/\Hid (dJ wr g (db n ka kb A B i (cV n ka kb A B i) k))) (fun t _=>N2+1-(intOf t).toNat)
   case atStart=>exact ⟨0,by omega,by simp,HG,HNS,by rw [db];exact HGB⟩
   case round =>
    obtain ⟨k,hk,rfl,qt,sO,tA⟩:=hrel;obtain ⟨wp,rfl⟩:∃ wp:World,wp=wr:=⟨_,rfl⟩;by_cases hkl:k<N2
    ·obtain ⟨t,ht⟩:∃ t,(aJ n kb)[k]?=some t:=⟨_,n9 (by rw [HN2.out];exact hkl)⟩;obtain ⟨y,hy⟩:∃ y,B[k]?=some y:=⟨_,n9 (by rw [HLB.out];exact hkl)⟩;have hkn:(k:Int)<(N2:Int):=by omega
     obtain ⟨b1,o1,v1,rfl,z1,hv1⟩:=HG1 wp sO i s HS;obtain ⟨b2,o2,v2,rfl,z2,pt⟩:=HG2 wp sO k t ht;obtain ⟨Az,Ax,rfl,hg1,sS,-⟩:=aI.open hv1;obtain ⟨Ay,Aw,rfl,qi,sn,-⟩:=aI.open pt;unfold maxLen at sS sn;have HV1:=n8 hv1;have HV2:=n8 pt;have hsm:=oD HS;have htm:=oD ht;have hsl:=nP s;have htl:=nP t;have CF:Hid (∀ sb,sb=(fS (aT s) (aT t)).isSome->∀ W,aC wp W->Calls prog 67 #[.slice Az (bC (aT s)).length Ax,.slice Ay (bC (aT t)).length Aw] W fun e w'=>∃ o,e=.returned (.tuple #[o,.bool sb])/\aC W w'/\∀ M,fS (aT s) (aT t)=some M->au w' o (bC M)):=fun sb zC W hW=>r9_ (aT s) (aT t) hsl htl (fun x hx=>by rcases hx with hx | hx <;> (have:=S6_ x hx;omega)) sb zC _ _ W (HV1.ext hW) (HV2.ext hW);have HNX:Hid (db n ka kb A B i (cV n ka kb A B i) (k+1)=if s &&& t≠0\/x=0\/y=0 then db n ka kb A B i (cV n ka kb A B i) k else gM (db n ka kb A B i (cV n ka kb A B i) k) (be n d (s ||| t)) (bu (x*y) (cK s t))):=HST i k s t x y _ HS ht HXX hy;have HRK:=n8 (HRZ i k (by have:=HL1.out;omega) (by have:=HL2.out;omega));have HLK:Hid ((db n ka kb A B i (cV n ka kb A B i) k).length=z):=by unfold Hid;rw [L3_];exact KS i
     have HPP:=HPR s hsm t htm;obtain ⟨acc,yk⟩:∃ l,db n ka kb A B i (cV n ka kb A B i) k=l:=⟨_,rfl⟩;rw [yk] at tA HNX HRK HLK;have hdx:=HAR.dig x (oD HXX);have hdy:=HBR.dig y (oD hy);have HDX:=n8 hdx;have HDY:=n8 hdy;obtain ⟨ba,oa,rfl,-,sV⟩:=HAC (by intro e;have:=HXX.out;rw [e] at this;simp at this);obtain ⟨z9,e9,g9⟩:=sV i x HXX;obtain rfl:z9=.string (aD x):=e9;obtain ⟨bb,ob,rfl,-,tG⟩:=HBC (by intro e;rw [e] at hy;simp at hy);obtain ⟨z8,e8,g8⟩:=tG k y hy;obtain rfl:z8=.string (aD y):=e8;have hblt1:=A3_ g9;have hblt2:=A3_ g8;have z3:=qt.cell (Ey.cell g9) (by have:=HOO.out;omega);have z5:=qt.cell (Ey.cell g8) (by have:=HOO.out;omega);have z4:=qt.cell (aN HB1S 2) (by have:=HOO.out;omega);have z6:=qt.cell (aN HB2S 2) (by have:=HOO.out;omega);have z7:=qt.cell (aN HBOS 2) (by have:=HOO.out;omega)
     (try simp only [oQ,oO,oP] at z4 z6 z7)
     have C0:(i:Int)<(ma:Int):=by have:=HMA.out;have:=HLA.out;omega
     have Ft:(k:Int)<(mb:Int):=by have:=HMB.out;have:=HLB.out;omega
     obtain ⟨BQ,AO⟩:∃ l,(bC (aT s)).length=l:=⟨_,rfl⟩;obtain ⟨BP,AN⟩:∃ l,(bC (aT t)).length=l:=⟨_,rfl⟩;have HLM1:=n8 AO;have HLM2:=n8 AN;rw [AO] at z1 hg1 CF HV1;rw [AN] at z2 qi CF HV2;have HSL:=n8 hsl;have HTL:=n8 htl;have B9:Hid (af w):=HT.out;clear hv1 pt hsm htm hsl htl yk hdx hdy sV tG g9 g8 hblt1 hblt2 AO AN ht hy HST;rcases HPP with ⟨h0,hm,hrm,ho⟩ | ⟨h0,hm⟩
     rotate_left
     ·have xo:Hid (db n ka kb A B i (cV n ka kb A B i) (k+1)=acc):=by unfold Hid;rw [HNX.out,if_pos (Or.inl h0)]
      have HMF:Hid (∀ W,aC wp W->Calls prog 67 #[.slice Az BQ Ax,.slice Ay BP Aw] W fun e w'=>∃ o,e=.returned (.tuple #[o,.bool false])/\aC W w'):=fun W hW=>(CF false (by rw [hm];rfl) W hW).mono fun e w' ⟨o,h1,h2,_⟩=>⟨o,h1,h2⟩
      clear h0 hm CF HNX
      go_upto_region 10 with fail
      refine fX (fun w'=>w'.cell? ⟨b1,o1+i,none⟩=some (.slice Az BQ Ax)/\w'.cell? ⟨b2,o2+k,none⟩=some (.slice Ay BP Aw)/\Hid (aC wp w')) 14 14 (by kernel_rfl) (by kernel_rfl) ⟨(aC.drew wp).cell z1,(aC.drew wp).cell z2,aC.drew wp⟩ (fun ops hO oX=>?_);refine rA [0,1,2,3,4,5,6,7] ?_
      iterate 8 (refine rS hO (by decide) fun o h=>?_;(conv at h=>lhs;whnf);subst h;(refine rY hO (v:=?_) (Or.inl ⟨by rfl,?_⟩) ?_;rotate_left;·((intro w' oz);(try dsimp only at oz);(try go_simp);(try with_reducible rfl)));(try simp only [Act.put,aK,aL,aM]))
      refine rE ?_;have hi:=a8 hO 8 (by decide)
      conv at hi=>rhs;arg 1;whnf
      refine dK hO 8 (by kernel_rfl) hi (fun K hK=>?_);go_simp
      (go_at_call 67;refine (HMF _ oX.2.2).mono ?_)
      rintro e wz ⟨o9,rfl,om⟩;go_wp2_with fail;refine hK _ _ ⟨(om).cell oX.1,(om).cell oX.2.1,aC.trans oX.2.2 (om)⟩ (fun oX=>?_);clear hK K hi
      (try simp only [Act.put,aK,aL,aM])
      refine rA [9,10,11,12] ?_
      iterate 4 (refine rS hO (by decide) fun o h=>?_;(conv at h=>lhs;whnf);subst h;(refine rX hO (v:=?_) (Or.inl ⟨by rfl,?_⟩) ?_;rotate_left;·((intro w');(try go_simp);(try with_reducible rfl)));(try simp only [Act.put,aK,aL,aM]))
      refine rE ?_;have hi:=a8 hO 13 (by decide)
      conv at hi=>rhs;arg 1;whnf
      refine fp hO 13 (by kernel_rfl) (by kernel_rfl) hi (fun K hK=>?_);go_simp;refine hK _ _ (by assumption) ?_;clear hK K hi hO
      (try simp only [Act.put,aK,aL,aM])
      have sQ:Hid (aC wp wz):=oX.2.2;go_wp2_with fail;go_roundw
      case rel=>exact ⟨k+1,by omega,by go_num,qt.ext sQ,sO.ext sQ,by rw [xo.out];exact tA.ext sQ⟩
      case measure=>simp [intOf];omega
     have Et:Hid (∀ W,aC wp W->Calls prog 67 #[.slice Az BQ Ax,.slice Ay BP Aw] W fun e w'=>∃ o,e=.returned (.tuple #[o,.bool true])/\aC W w'/\au w' o (bC (aT (s ||| t)))):=fun W hW=>(CF true (by rw [hm];rfl) W hW).mono fun e w' ⟨o,h1,h2,h3⟩=>⟨o,h1,h2,h3 _ hm⟩
     have CE:Hid (db n ka kb A B i (cV n ka kb A B i) (k+1)=if x=0\/y=0 then acc else gM acc (be n d (s ||| t)) (bu (x*y) (cK s t))):=by
      unfold Hid;rw [HNX.out];by_cases hxy:x=0\/y=0
      ·rw [if_pos (Or.inr hxy),if_pos hxy]
      ·rw [if_neg hxy,if_neg (by rintro (h | h);exact h h0;exact hxy h)]
     have HRM:Hid ((s ||| t)∈aJ n d):=hrm;have xn:Hid (cK s t=eM (aT s++aT t)):=ho;clear h0 hm hrm ho CF HNX
     go_upto_region 10 with fail
     refine fX (fun w'=>w'.cell? ⟨b1,o1+i,none⟩=some (.slice Az BQ Ax)/\w'.cell? ⟨b2,o2+k,none⟩=some (.slice Ay BP Aw)/\Hid (aC wp w')) 14 14 (by kernel_rfl) (by kernel_rfl) ⟨(aC.drew wp).cell z1,(aC.drew wp).cell z2,aC.drew wp⟩ (fun ops hO oX=>?_);refine rA [0,1,2,3,4,5,6,7] ?_
     iterate 8 (refine rS hO (by decide) fun o h=>?_;(conv at h=>lhs;whnf);subst h;(refine rY hO (v:=?_) (Or.inl ⟨by rfl,?_⟩) ?_;rotate_left;·((intro w' oz);(try dsimp only at oz);(try go_simp);(try with_reducible rfl)));(try simp only [Act.put,aK,aL,aM]))
     refine rE ?_;have hi:=a8 hO 8 (by decide)
     conv at hi=>rhs;arg 1;whnf
     refine dK hO 8 (by kernel_rfl) hi (fun K hK=>?_);go_simp
     (go_at_call 67;refine (Et _ oX.2.2).mono ?_)
     rintro e wz ⟨o9,rfl,om,Jr⟩;have HI9:=n8 Jr;clear Jr;go_wp2_with fail;refine hK _ _ ⟨(om).cell oX.1,(om).cell oX.2.1,aC.trans oX.2.2 (om)⟩ (fun oX=>?_);clear hK K hi
     (try simp only [Act.put,aK,aL,aM])
     refine rA [9,10,11,12] ?_
     iterate 4 (refine rS hO (by decide) fun o h=>?_;(conv at h=>lhs;whnf);subst h;(refine rX hO (v:=?_) (Or.inl ⟨by rfl,?_⟩) ?_;rotate_left;·((intro w');(try go_simp);(try with_reducible rfl)));(try simp only [Act.put,aK,aL,aM]))
     refine rE ?_;have hi:=a8 hO 13 (by decide)
     conv at hi=>rhs;arg 1;whnf
     refine fp hO 13 (by kernel_rfl) (by kernel_rfl) hi (fun K hK=>?_);go_simp;refine hK _ _ (by assumption) ?_;clear hK K hi hO
     (try simp only [Act.put,aK,aL,aM])
     have sQ:Hid (aC wp wz):=oX.2.2;have z3:=sQ.cell z3;have z4:=sQ.cell z4;have z5:=sQ.cell z5;have z6:=sQ.cell z6;have z7:=sQ.cell z7;have z1:=sQ.cell z1;have z2:=sQ.cell z2;clear oX;by_cases pE:x=0
     ·have sx:=Z2R pE;have xo:Hid (db n ka kb A B i (cV n ka kb A B i) (k+1)=acc):=by unfold Hid;rw [CE.out,if_pos (Or.inl pE)]
      obtain ⟨u1,hu1⟩:∃ u,aD x=u:=⟨_,rfl⟩;rw [hu1] at sx z3;clear hu1 pE CE;go_wp2_with fail;go_roundw
      case rel=>exact ⟨k+1,by omega,by go_num,qt.ext sQ,sO.ext sQ,by rw [xo.out];exact tA.ext sQ⟩
      case measure=>simp [intOf];omega
     have sx:=Z2Q pE;by_cases pR:y=0
     ·have sy:=Z2R pR;have xo:Hid (db n ka kb A B i (cV n ka kb A B i) (k+1)=acc):=by unfold Hid;rw [CE.out,if_pos (Or.inr pR)]
      obtain ⟨u1,hu1⟩:∃ u,aD x=u:=⟨_,rfl⟩;obtain ⟨u2,yS⟩:∃ u,aD y=u:=⟨_,rfl⟩;rw [hu1] at sx z3;rw [yS] at sy z5;clear hu1 yS pE pR CE;go_wp2_with fail;go_roundw
      case rel=>exact ⟨k+1,by omega,by go_num,qt.ext sQ,sO.ext sQ,by rw [xo.out];exact tA.ext sQ⟩
      case measure=>simp [intOf];omega
     have sy:=Z2Q pR;have xo:Hid (db n ka kb A B i (cV n ka kb A B i) (k+1)=gM acc (be n d (s ||| t)) (bu (x*y) (cK s t))):=by unfold Hid;rw [CE.out,if_neg (by rintro (h | h);exact pE h;exact pR h)]
     have HEW:Hid (aC w wp):=jP Ey qt (fun j hj e=>by have:=HOO.out;omega);have hsx:=(fw HDX).2;have hsy:=(fw HDY).2;have yu:Hid (∀ W,aC wp W->oW 68 #[.string (aD x),.string (aD y)] W (.string (aD (x*y)))):=fun W hW=>x4_ x y W (by omega) (by omega) (HT.ext (HEW.trans hW));obtain ⟨u1,hu1⟩:∃ u,aD x=u:=⟨_,rfl⟩;obtain ⟨u2,yS⟩:∃ u,aD y=u:=⟨_,rfl⟩;obtain ⟨u3,zv⟩:∃ u,aD (x*y)=u:=⟨_,rfl⟩;have HU3:=n8 zv;rw [hu1] at sx z3 yu;rw [yS] at sy z5 yu;rw [zv] at yu;clear hu1 yS zv pE pR CE hsx hsy
     go_upto_region 12 with fail
     refine fX (fun w'=>w'.cell? ⟨w.heap.size,2,none⟩=some (.slice (some ⟨ba,oa,none⟩) ma ca)/\w'.cell? ⟨ba,oa+i,none⟩=some (.string u1)/\w'.cell? ⟨x1,2,none⟩=some (.slice (some ⟨bb,ob,none⟩) mb cb)/\w'.cell? ⟨bb,ob+k,none⟩=some (.string u2)/\Hid (aC wz w')) 12 12 (by kernel_rfl) (by kernel_rfl) ⟨(aC.drew wz).cell z4,(aC.drew wz).cell z3,(aC.drew wz).cell z6,(aC.drew wz).cell z5,aC.drew wz⟩ (fun ops hO oX=>?_);refine rA [0,1,2,3,4,5,6,7,8,9] ?_
     iterate 10 (refine rS hO (by decide) fun o h=>?_;(conv at h=>lhs;whnf);subst h;(refine rY hO (v:=?_) (Or.inl ⟨by rfl,?_⟩) ?_;rotate_left;·((intro w' oz);(try dsimp only at oz);(try go_simp);(try with_reducible rfl)));(try simp only [Act.put,aK,aL,aM]))
     refine rE ?_;have hi:=a8 hO 10 (by decide)
     conv at hi=>rhs;arg 1;whnf
     refine dK hO 10 (by kernel_rfl) hi (fun K hK=>?_);go_simp
     (go_at_call 68;refine (yu _ (sQ.trans oX.2.2.2.2)).mono ?_)
     rintro e wm ⟨rfl,om⟩;go_wp2_with fail;refine hK _ _ ⟨(om).cell oX.1,(om).cell oX.2.1,(om).cell oX.2.2.1,(om).cell oX.2.2.2.1,aC.trans oX.2.2.2.2 (om)⟩ (fun oX=>?_);clear hK K hi
     (try simp only [Act.put,aK,aL,aM])
     have hi:=a8 hO 11 (by decide)
     conv at hi=>rhs;arg 1;whnf
     refine fp hO 11 (by kernel_rfl) (by kernel_rfl) hi (fun K hK=>?_);go_simp;refine hK _ _ (by assumption) ?_;clear hK K hi hO
     (try simp only [Act.put,aK,aL,aM])
     have D2:Hid (aC wz wm):=oX.2.2.2.2;have BK:Hid (aC wp wm):=sQ.trans D2;have z1:=D2.cell z1;have z2:=D2.cell z2;have z7:=D2.cell z7;clear oX z3 z4 z5 z6 yu sx sy
     go_upto_region 13 with fail
     have Dv:Hid ((bC (aT s)).length<=12):=by unfold Hid bC;rw [List.length_map];exact HSL
     have Hy:Hid ((bC (aT t)).length<=12):=by unfold Hid bC;rw [List.length_map];exact HTL
     refine fX (fun w'=>w'.cell? ⟨b1,o1+i,none⟩=some (.slice Az BQ Ax)/\w'.cell? ⟨b2,o2+k,none⟩=some (.slice Ay BP Aw)/\Hid (aC wm w')) 12 12 (by kernel_rfl) (by kernel_rfl) ⟨(aC.drew wm).cell z1,(aC.drew wm).cell z2,aC.drew wm⟩ (fun ops hO oX=>?_);refine rA [1,2,3,4,6,7,8,9] ?_
     iterate 8 (refine rS hO (by decide) fun o h=>?_;(conv at h=>lhs;whnf);subst h;(refine rY hO (v:=?_) (Or.inl ⟨by rfl,?_⟩) ?_;rotate_left;·((intro w' oz);(try dsimp only at oz);(try go_simp);(try with_reducible rfl)));(try simp only [Act.put,aK,aL,aM]))
     refine rE ?_;have hi:=a8 hO 0 (by decide)
     conv at hi=>rhs;arg 1;whnf
     refine dK hO 0 (by kernel_rfl) hi (fun K hK=>?_);go_simp;refine (fun (h:∀ W0,W0=_->K _ W0)=>h _ rfl) (fun wA E6=>?_);have B4:Hid (aC wm wA):=by rw [E6];exact (aC.drew wm).trans (aC.alloc _ _)
     have Mz:Hid (cS wm.heap.size wA (.slice (some ⟨wm.heap.size,0,none⟩) 0 0) []):=by rw [E6];exact World.ownsRow_made wm.drew #[] 0 (oJ _) (Nat.zero_le _) rfl
     clear E6;refine hK _ _ ⟨B4.cell z1,B4.cell z2,B4⟩ (fun oX=>?_);clear hK K hi
     (try simp only [Act.put,aK,aL,aM])
     have hi:=a8 hO 5 (by decide)
     conv at hi=>rhs;arg 1;whnf
     refine dK hO 5 (by kernel_rfl) hi (fun K hK=>?_);refine Y7_ (by rfl) wA _ _ 26 underlying26 (by rfl) wm.heap.size (.slice (some ⟨wm.heap.size,0,none⟩) 0 0) [] (bC (aT s)) (.slice Az BQ Ax) (by rfl) Mz (by rfl) (HV1.ext (BK.trans B4)) (by have:=Dv.out;simp;omega) B4.size ?_;intro v5 wB qG o8;rw [List.nil_append] at qG;have HO5:=n8 qG;have B3:Hid (aC wm wB):=Below.trans B4 o8;clear qG o8;refine hK _ _ ⟨B3.cell z1,B3.cell z2,B3⟩ (fun oX=>?_);clear hK K hi
     (try simp only [Act.put,aK,aL,aM])
     have hi:=a8 hO 10 (by decide)
     conv at hi=>rhs;arg 1;whnf
     refine dK hO 10 (by kernel_rfl) hi (fun K hK=>?_);refine Y7_ (by rfl) wB _ _ 26 underlying26 (by rfl) wm.heap.size v5 (bC (aT s)) (bC (aT t)) (.slice Ay BP Aw) (by rfl) HO5 (by rfl) (HV2.ext (BK.trans B3)) (by have:=Dv.out;have:=Hy.out;omega) B3.size ?_;intro v6 wC tI pF;have HO6:=n8 tI;have Er:Hid (aC wm wC):=Below.trans B3 pF;clear tI pF;refine hK _ _ ⟨Er.cell z1,Er.cell z2,Er⟩ (fun oX=>?_);clear hK K hi
     (try simp only [Act.put,aK,aL,aM])
     have M7:Hid (au wC v6 (bC (aT s++aT t))):=by
      have e9:bC (aT s++aT t)=bC (aT s)++bC (aT t):=by simp [bC]
      unfold Hid;rw [e9];refine au.of_owns HO6 (fun y hy=>?_);rw [<- e9] at hy;obtain ⟨q,hq,rfl⟩:=List.mem_map.1 hy;have Eo:q<12:=by
       rcases List.mem_append.1 hq with h | h
       ·exact S6_ q h
       ·exact S6_ q h
      omega
     have IL:Hid (oW 71 #[v6] wC (.bool (cK s t))):=by
      unfold Hid;rw [xn.out];exact Z2h (aT s++aT t) (by rw [oU];have:=HSL.out;have:=HTL.out;omega) v6 wC M7
     have hi:=a8 hO 11 (by decide)
     conv at hi=>rhs;arg 1;whnf
     refine fp hO 11 (by kernel_rfl) (by kernel_rfl) hi (fun K hK=>?_);go_simp
     (go_at_call 71;refine (IL).mono ?_)
     rintro e wo ⟨rfl,om⟩;have Bz:Hid (aC wm wo):=Er.trans om;clear om;go_wp2_with fail;refine hK _ _ ⟨Bz.cell z1,Bz.cell z2,Bz⟩ ?_;clear hK K hi hO
     (try simp only [Act.put,aK,aL,aM])
     have xr:Hid (aC wp wo):=BK.trans Bz;have z7:=Bz.cell z7;have IF:Hid (aC w wo):=HEW.trans xr;obtain ⟨o,ho⟩:∃ o,cK s t=o:=⟨_,rfl⟩;rw [ho] at xo |-;obtain ⟨r,hr⟩:∃ r,s ||| t=r:=⟨_,rfl⟩;rw [hr] at xo HRM HI9;obtain ⟨hp1,hp2⟩:=Mr r HRM;obtain ⟨p,hp⟩:∃ p,be n d r=p:=⟨_,rfl⟩;rw [hp] at xo hp1 hp2;have HPL:Hid (∀ W,aC wo W->oW 70 #[.slice s3 z q3,o9] W (.int .i64 p)):=fun W hW=>by
      have tT:aT r∈bH n d:=by rw [<- nj (by have:=HN.out;omega) HDN.out];exact List.mem_map_of_mem HRM
      have I4:∀ T∈bH n d,T.length=d:=fun T hT=>(jY (by have:=HN.out;omega) HDN).1.len T hT;have h9:=j1_ (bH n d) (aT r) tT (fun T hT=>by rw [I4 T hT,I4 _ tT]) (jY (by have:=HN.out;omega) HDN).2.2 (nP r) _ _ W (HG3 W (sO.ext (xr.trans hW))) (HI9.ext ((D2.trans Bz).trans hW));rw [<- hp1] at h9;exact h9
     have HP2:Hid (p<z):=hp2;obtain ⟨c0,xR⟩:∃ c,acc[p]?=some c:=⟨_,n9 (by rw [HLK.out];exact hp2)⟩;have hs0:=HRK c0 (oD xR);have hsz:=Z2d HDX HDY o;have HRG:=n8 (tA.ext xr);have z8:=HRG.cell p c0 xR;have EB:Hid (gM acc p (bu (x*y) o)=acc.set p (c0+bu (x*y) o)):=by
      unfold Hid gM;rw [oC,xR];rfl
     have Dq:Hid (∀ W,Calls prog 72 #[.string u3] W fun e w'=>e=.returned (.string (aD (-(x*y))))/\W=w'):=fun W=>by
      rw [<- HU3.out];exact nW (x*y) W (by omega)
     have HAD:Hid (∀ W,aC wo W->oW 73 #[.string (aD c0),.string (aD (bu (x*y) o))] W (.string (aD (c0+bu (x*y) o)))):=fun W hW=>x3_ c0 (bu (x*y) o) W (by omega) (by omega) (HT.ext (IF.trans hW));have BY:(p:Int)<(z:Int):=by omega
     have vp:Hid (o=true->aD (bu (x*y) o)=aD (-(x*y))):=fun h=>by rw [h];rfl
     have KG:Hid (o=false->aD (bu (x*y) o)=u3):=fun h=>by rw [h];exact HU3
     obtain ⟨u4,Im⟩:∃ u,aD (bu (x*y) o)=u:=⟨_,rfl⟩;obtain ⟨u5,Il⟩:∃ u,aD c0=u:=⟨_,rfl⟩;obtain ⟨u6,E9⟩:∃ u,aD (c0+bu (x*y) o)=u:=⟨_,rfl⟩;have HU6:=n8 E9;rw [Im] at HAD vp KG;rw [Il] at HAD z8;rw [E9] at HAD;clear oX z1 z2 hp1 hp2 xR hs0 hsz Im Il E9 hr hp ho;cases o with
     | true =>
      have e9:aD (-(x*y))=u4:=(vp rfl).symm;rw [e9] at Dq;clear e9;go_wp2_with fail;refine (Dq wo).mono ?_;rintro e w8 ⟨rfl,rfl⟩;go_wp2_with fail;refine (HPL wo (aC.refl _)).mono ?_;rintro e wq ⟨rfl,tJ⟩;have HEq:Hid (aC wo wq):=tJ;have BJ:Hid (aC wp wq):=xr.trans HEq;have z7:=HEq.cell z7;have z8:=HEq.cell z8;clear tJ
      go_upto_region 16 with fail
      refine fX (fun w'=>w'.cell? ⟨x4,2,none⟩=some (.slice (some ⟨g,0,none⟩) z cg)/\w'.cell? ⟨g,p,none⟩=some (.string u5)/\Hid (aC wq w')) 11 12 (by kernel_rfl) (by kernel_rfl) ⟨(aC.drew wq).cell z7,(aC.drew wq).cell z8,aC.drew wq⟩ (fun ops hO oX=>?_);have hi:=a8 hO 0 (by decide)
      conv at hi=>rhs;arg 1;whnf
      refine tX hO (v:=?_) 0 hi (Or.inl ⟨by rfl,?_⟩) ?_;rotate_left
      ·((intro w');(try go_simp);(try with_reducible rfl))
      clear hi
      (try simp only [Act.put,aK,aL,aM])
      have hi:=a8 hO 1 (by decide)
      conv at hi=>rhs;arg 1;whnf
      refine lj hO (v:=?_) 1 [10] hi (by kernel_rfl) (by kernel_rfl) (by kernel_rfl) (by kernel_rfl) (by kernel_rfl) (fun _ _ _ h=>h) (Or.inl ⟨by rfl,?_⟩) (by assumption) ?_;rotate_left
      ·((intro w' oz);(try dsimp only at oz);(try go_simp);(try with_reducible rfl))
      clear hi
      (try simp only [Act.put,aK,aL,aM])
      refine rA [2,3] ?_
      iterate 2 (refine rS hO (by decide) fun o h=>?_;(conv at h=>lhs;whnf);subst h;(refine rX hO (v:=?_) (Or.inl ⟨by rfl,?_⟩) ?_;rotate_left;·((intro w');(try go_simp);(try with_reducible rfl)));(try simp only [Act.put,aK,aL,aM]))
      refine rE ?_;have hi:=a8 hO 4 (by decide)
      conv at hi=>rhs;arg 1;whnf
      refine lj hO (v:=?_) 4 [9,7,6] hi (by kernel_rfl) (by kernel_rfl) (by kernel_rfl) (by kernel_rfl) (by kernel_rfl) (fun _ _ _ h=>h) (Or.inl ⟨by rfl,?_⟩) (by assumption) ?_;rotate_left
      ·((intro w' oz);(try dsimp only at oz);(try go_simp);(try with_reducible rfl))
      clear hi
      (try simp only [Act.put,aK,aL,aM])
      refine rA [5,6] ?_
      iterate 2 (refine rS hO (by decide) fun o h=>?_;(conv at h=>lhs;whnf);subst h;(refine rX hO (v:=?_) (Or.inl ⟨by rfl,?_⟩) ?_;rotate_left;·((intro w');(try go_simp);(try with_reducible rfl)));(try simp only [Act.put,aK,aL,aM]))
      refine rE ?_;have hi:=a8 hO 7 (by decide)
      conv at hi=>rhs;arg 1;whnf
      refine lj hO (v:=?_) 7 [9] hi (by kernel_rfl) (by kernel_rfl) (by kernel_rfl) (by kernel_rfl) (by kernel_rfl) (fun _ _ _ h=>h) (Or.inl ⟨by rfl,?_⟩) (by assumption) ?_;rotate_left
      ·((intro w' oz);(try dsimp only at oz);(try go_simp);(try with_reducible rfl))
      clear hi
      (try simp only [Act.put,aK,aL,aM])
      have hi:=a8 hO 8 (by decide)
      conv at hi=>rhs;arg 1;whnf
      refine tX hO (v:=?_) 8 hi (Or.inl ⟨by rfl,?_⟩) ?_;rotate_left
      ·((intro w');(try go_simp);(try with_reducible rfl))
      clear hi
      (try simp only [Act.put,aK,aL,aM])
      have hi:=a8 hO 9 (by decide)
      conv at hi=>rhs;arg 1;whnf
      refine dK hO 9 (by kernel_rfl) hi (fun K hK=>?_);go_simp
      (go_at_call 73;refine (HAD _ (HEq.trans oX.2.2)).mono ?_)
      rintro e wy ⟨rfl,om⟩;go_wp2_with fail;refine hK _ _ ⟨(om).cell oX.1,(om).cell oX.2.1,aC.trans oX.2.2 (om)⟩ (fun oX=>?_);clear hK K hi
      (try simp only [Act.put,aK,aL,aM])
      have qs:Hid (aC wp wy):=BJ.trans oX.2.2;have HRY:=n8 (tA.ext qs);have kg:=HRY.free p;have kz:=oX.2.1;have hi:=a8 hO 10 (by decide)
      conv at hi=>rhs;arg 1;whnf
      refine tX hO (v:=?_) 10 hi (Or.inl ⟨by rfl,?_⟩) ?_;rotate_left
      ·((intro w');(try go_simp);(try with_reducible rfl))
      clear hi
      (try simp only [Act.put,aK,aL,aM])
      have hi:=a8 hO 11 (by decide)
      conv at hi=>rhs;arg 1;whnf
      refine F5_ hO 11 (by kernel_rfl) (by kernel_rfl) (by kernel_rfl) hi (fun K hK=>?_);go_simp;refine hK _ _ ?_;clear hK K hi hO
      (try simp only [Act.put,aK,aL,aM])
      go_wp2_with fail;go_roundw
      case rel=>exact ⟨k+1,by omega,by go_num,(qt.ext qs).trans (f_ (eJ _ _ _ _) (fun k hk=>by cases hk;rfl)),(sO.ext qs).set HRY (by rw [HLK.out];exact HP2),by
       have h9:=HRY.set p (by rw [HLK.out];exact HP2) (c0+bu (x*y) true);rw [HU6.out] at h9;rw [xo.out,EB.out]
       exact h9⟩
      case measure=>simp [intOf];omega
     | false =>
      have e9:u4=u3:=KG rfl;obtain rfl:=e9.symm;go_wp2_with fail;refine (HPL wo (aC.refl _)).mono ?_;rintro e wq ⟨rfl,tJ⟩;have HEq:Hid (aC wo wq):=tJ;have BJ:Hid (aC wp wq):=xr.trans HEq;have z7:=HEq.cell z7;have z8:=HEq.cell z8;clear tJ
      go_upto_region 16 with fail
      refine fX (fun w'=>w'.cell? ⟨x4,2,none⟩=some (.slice (some ⟨g,0,none⟩) z cg)/\w'.cell? ⟨g,p,none⟩=some (.string u5)/\Hid (aC wq w')) 11 12 (by kernel_rfl) (by kernel_rfl) ⟨(aC.drew wq).cell z7,(aC.drew wq).cell z8,aC.drew wq⟩ (fun ops hO oX=>?_);have hi:=a8 hO 0 (by decide)
      conv at hi=>rhs;arg 1;whnf
      refine tX hO (v:=?_) 0 hi (Or.inl ⟨by rfl,?_⟩) ?_;rotate_left
      ·((intro w');(try go_simp);(try with_reducible rfl))
      clear hi
      (try simp only [Act.put,aK,aL,aM])
      have hi:=a8 hO 1 (by decide)
      conv at hi=>rhs;arg 1;whnf
      refine lj hO (v:=?_) 1 [10] hi (by kernel_rfl) (by kernel_rfl) (by kernel_rfl) (by kernel_rfl) (by kernel_rfl) (fun _ _ _ h=>h) (Or.inl ⟨by rfl,?_⟩) (by assumption) ?_;rotate_left
      ·((intro w' oz);(try dsimp only at oz);(try go_simp);(try with_reducible rfl))
      clear hi
      (try simp only [Act.put,aK,aL,aM])
      refine rA [2,3] ?_
      iterate 2 (refine rS hO (by decide) fun o h=>?_;(conv at h=>lhs;whnf);subst h;(refine rX hO (v:=?_) (Or.inl ⟨by rfl,?_⟩) ?_;rotate_left;·((intro w');(try go_simp);(try with_reducible rfl)));(try simp only [Act.put,aK,aL,aM]))
      refine rE ?_;have hi:=a8 hO 4 (by decide)
      conv at hi=>rhs;arg 1;whnf
      refine lj hO (v:=?_) 4 [9,7,6] hi (by kernel_rfl) (by kernel_rfl) (by kernel_rfl) (by kernel_rfl) (by kernel_rfl) (fun _ _ _ h=>h) (Or.inl ⟨by rfl,?_⟩) (by assumption) ?_;rotate_left
      ·((intro w' oz);(try dsimp only at oz);(try go_simp);(try with_reducible rfl))
      clear hi
      (try simp only [Act.put,aK,aL,aM])
      refine rA [5,6] ?_
      iterate 2 (refine rS hO (by decide) fun o h=>?_;(conv at h=>lhs;whnf);subst h;(refine rX hO (v:=?_) (Or.inl ⟨by rfl,?_⟩) ?_;rotate_left;·((intro w');(try go_simp);(try with_reducible rfl)));(try simp only [Act.put,aK,aL,aM]))
      refine rE ?_;have hi:=a8 hO 7 (by decide)
      conv at hi=>rhs;arg 1;whnf
      refine lj hO (v:=?_) 7 [9] hi (by kernel_rfl) (by kernel_rfl) (by kernel_rfl) (by kernel_rfl) (by kernel_rfl) (fun _ _ _ h=>h) (Or.inl ⟨by rfl,?_⟩) (by assumption) ?_;rotate_left
      ·((intro w' oz);(try dsimp only at oz);(try go_simp);(try with_reducible rfl))
      clear hi
      (try simp only [Act.put,aK,aL,aM])
      have hi:=a8 hO 8 (by decide)
      conv at hi=>rhs;arg 1;whnf
      refine tX hO (v:=?_) 8 hi (Or.inl ⟨by rfl,?_⟩) ?_;rotate_left
      ·((intro w');(try go_simp);(try with_reducible rfl))
      clear hi
      (try simp only [Act.put,aK,aL,aM])
      have hi:=a8 hO 9 (by decide)
      conv at hi=>rhs;arg 1;whnf
      refine dK hO 9 (by kernel_rfl) hi (fun K hK=>?_);go_simp
      (go_at_call 73;refine (HAD _ (HEq.trans oX.2.2)).mono ?_)
      rintro e wy ⟨rfl,om⟩;go_wp2_with fail;refine hK _ _ ⟨(om).cell oX.1,(om).cell oX.2.1,aC.trans oX.2.2 (om)⟩ (fun oX=>?_);clear hK K hi
      (try simp only [Act.put,aK,aL,aM])
      have qs:Hid (aC wp wy):=BJ.trans oX.2.2;have HRY:=n8 (tA.ext qs);have kg:=HRY.free p;have kz:=oX.2.1;have hi:=a8 hO 10 (by decide)
      conv at hi=>rhs;arg 1;whnf
      refine tX hO (v:=?_) 10 hi (Or.inl ⟨by rfl,?_⟩) ?_;rotate_left
      ·((intro w');(try go_simp);(try with_reducible rfl))
      clear hi
      (try simp only [Act.put,aK,aL,aM])
      have hi:=a8 hO 11 (by decide)
      conv at hi=>rhs;arg 1;whnf
      refine F5_ hO 11 (by kernel_rfl) (by kernel_rfl) (by kernel_rfl) hi (fun K hK=>?_);go_simp;refine hK _ _ ?_;clear hK K hi hO
      (try simp only [Act.put,aK,aL,aM])
      go_wp2_with fail;go_roundw
      case rel=>exact ⟨k+1,by omega,by go_num,(qt.ext qs).trans (f_ (eJ _ _ _ _) (fun k hk=>by cases hk;rfl)),(sO.ext qs).set HRY (by rw [HLK.out];exact HP2),by
       have h9:=HRY.set p (by rw [HLK.out];exact HP2) (c0+bu (x*y) false);rw [HU6.out] at h9;rw [xo.out,EB.out]
       exact h9⟩
      case measure=>simp [intOf];omega
    ·obtain rfl:k=N2:=by omega
     go_wp2_with fail;go_roundw
     case rel=>exact ⟨i+1,by omega,by go_num,qt,sO,by rw [HRW.out];exact tA⟩
     case measure=>simp [intOf];omega
  ·obtain rfl:i=N1:=by omega
   have HE9:Hid (aC w wi):=jP Ey HG (fun j hj e=>by have:=HOO.out;omega);have HBO9:=n8 ((HG.block x4 (dS HBOS) (by have:=HOO.out;omega)).trans HBOS);have HB39:=n8 ((HG.block x2 (dS HB3S) (by have:=HOO.out;omega)).trans HB3S);have HGD:Hid (dJ wi g D):=by unfold Hid;rw [KP.out];exact HGB
   have yL:Hid (D.length=z):=by unfold Hid;rw [KP.out];exact KS i
   have k9:=aN HBO9;have f9:=cD HB39;have r9:=aN HB39;go_wp2_with fail;have hb7:=gu HB39 (.int .i64 n) (.int .i64 d) (.slice (some ⟨g,0,none⟩) z cg);refine bodyPost_ret (results_cell_row (by rfl) _ _ x2 37 #[.int .i64 n,.int .i64 d,.slice (some ⟨g,0,none⟩) z cg] (0,0) _ (by rfl) hb7 underlying37 (by rfl) (by kernel_rfl)) (by rfl) ⟨g,cg,by rw [yL.out],dW HE9 (by have:=HOO.out;omega) _ _ _,by have:=HOO.out;have:=HSZ.out;omega,by rw [yL.out];exact HGC,HGM,?_⟩;exact (HGD.grown (f_ (S:=(·=x2)) (en wi x2 (.int .i64 n) (.int .i64 d) (.slice (some ⟨g,0,none⟩) z cg)) (fun k hk=>by cases hk;rfl)) (fun e=>by have:=HOO.out;omega))
end Go.Proofs.YtjlkkofmojgipaaGreatDoor
