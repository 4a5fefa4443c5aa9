import Derived.Test.YtoonaddcfakamaaGreatDoorZAH
import Derived.Test.YtoonaddcfakamaaGreatDoorZAK
import Derived.Test.YtoonaddcfakamaaGreatDoorZAA
import Derived.Sort.QuietIn
import Derived.Test.YtoonaddcfakamaaGreatDoorZAL
import Derived.Deep.CutRange
import Derived.Deep.RegionHeld3
import Derived.Test.YtoonaddcfakamaaGreatDoorZAM
import Derived.Test.YtoonaddcfakamaaGreatDoorZAI
import Derived.Test.YtoonaddcfakamaaGreatDoorProg
set_option linter.unusedVariables false
set_option linter.unusedSimpArgs false
set_option maxRecDepth 1000000
set_option maxHeartbeats 8000000
namespace Go.Proofs.YtoonaddcfakamaaGreatDoor
open Go.RowKit Go.Shelf Go.Proofs.Tryz
attribute [local go_sem] Oper.semAt_some
theorem R1_ {F:Fence} {n:Nat} {P:Program} (w:World) {ops:Array Oper} {rest:List Oper} {o:Oper} {a:Act} {Q:Exit->Act->World->Prop}
  (hg:o.guard=none) (l c:Operand) (t:TypeId) (E7:o.op=Op.makeSlice t l c)
  (base:Nat) (e:TypeId) (i:TypeInfo) (z:Value) (size:Nat) (h1:P.underlying t=some (.slice e)) (h2:P.info? e=some i) (h3:i.zero=some z) (h4:i.size=size)
  (kl kc:IntKind) (L C:Int) (m:Nat) (hl:a.eval l=.int kl L) (hc:a.eval c=.int kc C) (hL:L=(m:Int)) (hC:C=(m:Int)) (b2:i.bytes*m<=281474976710656) (b3:m<=maxLen) (b4:base<=w.heap.size)
  (hK:∀ w',w'.ownsRow base e size (.slice (some ⟨w.heap.size,0,none⟩) m m) m (madeCells z.cells (m*size)).toList->w.grownBy w' none->wpListIn F n P ops Q rest (a.put o.dst (.slice (some ⟨w.heap.size,0,none⟩) m m)) w') :
  wpListIn F n P ops Q (o::rest) a w:=by
 refine wpListIn_plain hg fun K L7=>?_;obtain ⟨w',AD,r1,r2⟩:=run_make_full (P:=P) w base t e i z size h1 h2 h3 h4 kl kc m b2 b3 b4;subst hL;subst hC;unfold Oper.wpIn;refine ⟨?_,?_⟩;·simp [Oper.about,E7]
 ·rw [Oper.semAt_plain F _ _ (by rw [E7];intro c sn;cases sn)];simp [execOp,E7,hl,hc,AD,Result.andThen];exact L7 _ _ (hK w' r1 r2)
def ml (l:List Nat):List Value:=l.map fun x:Nat=>Value.int .i64 (x:Int)
structure dE (J:Nat->World->Prop) (i:Nat) (B g k N B1 B2:Nat) (wr:World) (cur:List Nat):Prop where
 j:J i wr
 own:wr.ownsRow B 3 1 (.slice (some ⟨g,0,none⟩) k k) k (ml cur)
 b1:Boxed wr B1 3 (.int .i64 (k:Int))
 b2:Boxed wr B2 3 (.int .i64 (N:Int))
 lt1:B1<B
 lt2:B2<B
theorem dE.len {J:Nat->World->Prop} {i B g k N B1 B2:Nat} {wr:World} {cur:List Nat} (h:dE J i B g k N B1 B2 wr cur):cur.length=k:=by
 have:=h.own.1;unfold ml at this;rw [List.length_map] at this;omega
theorem dE.block {J:Nat->World->Prop} {i B g k N B1 B2:Nat} {wr:World} {cur:List Nat} (h:dE J i B g k N B1 B2 wr cur):∃ C,wr.heap[g]?=some (.cells C 3 (0,0))/\B<=g:=by
 rcases h.own.2 with ⟨hv,_⟩ | ⟨g',cap,C,hv,hb,hg,_⟩
 ·simp at hv
 ·simp only [Value.slice.injEq,Option.some.injEq,Addr.mk.injEq] at hv;obtain ⟨⟨rfl,-,-⟩,-,-⟩:=hv;exact ⟨C,hg,hb⟩
theorem dE.cell {J:Nat->World->Prop} {i B g k N B1 B2:Nat} {wr:World} {cur:List Nat} (h:dE J i B g k N B1 B2 wr cur) {j x:Nat} (hx:cur[j]?=some x):wr.cell? ⟨g,j,none⟩=some (.int .i64 (x:Int))/\wr.frozen? ⟨g,j,none⟩=false:=by
 have hj:=(od.1 hx).1;have hl:=h.len;exact ⟨(h.own.cellAt j (by omega)).trans (by simp [ml,hx]),h.own.frozenAt j⟩
theorem dE.set {J:Nat->World->Prop} {i B g k N B1 B2:Nat} {wr:World} {cur:List Nat} (h:dE J i B g k N B1 B2 wr cur) (hJ:AbC B 3 J) (j x:Nat):dE J i B g k N B1 B2 (wr.setCell ⟨g,j,none⟩ (.int .i64 (x:Int))) (cur.set j x):=by
 obtain ⟨C,hC,hB⟩:=h.block;have hg:=fT wr g j (.int .i64 (x:Int));have h1:=h.lt1;have h2:=h.lt2;refine ⟨hJ i wr _ _ h.j hg (fun r e=>by cases e;exact ⟨hB,C,_,hC⟩),?_,h.b1.kept hg (fun e=>by simp at e;omega),h.b2.kept hg (fun e=>by simp at e;omega),h.lt1,h.lt2⟩;unfold ml;rw [List.map_set];exact (h.own.stored j _).1
theorem dE.setAt {J:Nat->World->Prop} {i B g k N B1 B2:Nat} {wr:World} {cur:List Nat} (h:dE J i B g k N B1 B2 wr cur):jd 3 wr (.slice (some ⟨g,0,none⟩) k k) cur:=by
 obtain ⟨C,hC,hB⟩:=h.block;have hl:=h.len;exact ⟨g,C,(0,0),by rw [hl],hC,fun j x hx=>(h.cell hx).1⟩
theorem dE.round {J:Nat->World->Prop} {i B g k N B1 B2:Nat} {wr w':World} {cur:List Nat} (h:dE J i B g k N B1 B2 wr cur) (hj:J (i+1) w') (hk:ft 3 wr w'):dE J (i+1) B g k N B1 B2 w' cur:=by
 refine ⟨hj,⟨h.own.1,?_⟩,hk.same _ _ _ h.b1,hk.same _ _ _ h.b2,h.lt1,h.lt2⟩;rcases h.own.2 with h' | ⟨g',cap,C,hv,hb,hg,rest⟩
 ·exact .inl h'
 ·exact .inr ⟨g',cap,C,hv,hb,hk.same _ _ _ hg,rest⟩
theorem dE.drawn {J:Nat->World->Prop} {i B g k N B1 B2:Nat} {wr:World} {cur:List Nat} (h:dE J i B g k N B1 B2 wr cur) (hJ:AbC B 3 J) (n:Nat):dE J i B g k N B1 B2 (wr.drewN n) cur:=by
 have hg:wr.grownBy (wr.drewN n) none:=(aA.drewN wr n).grown none;exact ⟨hJ i wr _ none h.j hg (fun r e=>by cases e),h.own.kept hg (by simp [Value.ownBlock]),h.b1.kept hg (by simp),h.b2.kept hg (by simp),h.lt1,h.lt2⟩
def Z7s (w:World) (g k:Nat):Nat:=jI ((List.range k).map fun j=>match w.cell? ⟨g,j,none⟩ with | some (.int _ x)=>x.toNat | _=>0)
theorem dE.enc {J:Nat->World->Prop} {i B g k N B1 B2:Nat} {wr:World} {cur:List Nat} (h:dE J i B g k N B1 B2 wr cur):Z7s wr g k=jI cur:=by
 unfold Z7s;congr 1;have hl:=h.len;apply List.ext_getElem;·simp [hl]
 ·intro j h1 h2;rw [List.getElem_map,List.getElem_range,(h.cell (oc h2)).1];simp
def ig (k i:Nat):List Nat:=List.range i++List.replicate (k-i) 0
theorem Z2G {k i:Nat} (h:i<k):(ig k i).set i i=ig k (i+1):=by
 unfold ig;rw [List.set_append_right i i (by simp),List.length_range,show i-i=0 by omega,show k-i=(k-(i+1))+1 by omega,List.replicate_succ,List.set_cons_zero,List.range_succ,List.append_assoc];rfl
theorem Z2F {k i:Nat} (h:i<k):(ig k i)[i]?=some 0:=by
 unfold ig;rw [o8 (by simp),List.length_range,show i-i=0 by omega,show k-i=(k-(i+1))+1 by omega,List.replicate_succ];rfl
theorem Z2E (k:Nat):ig k k=List.range k:=by simp [ig]
def fy (s:List Nat) (k i j:Nat):List Nat:=s.take i++((List.range (j-i)).map fun q=>s.getD i 0+1+q)++s.drop j
theorem Z4V {s:List Nat} {k i j:Nat} (hs:s.length=k) (qH:i<=j) (hj:j<=k):(fy s k i j).length=k:=by
 unfold fy;simp [hs];omega
theorem Z11 {s:List Nat} {k i:Nat} (hs:s.length=k) (hi:i<k):s.set i (s.getD i 0+1)=fy s k i (i+1):=by
 unfold fy;rw [show i+1-i=1 by omega];apply List.ext_getElem?;intro q;rw [pH];by_cases e:i=q
 ·subst e;rw [if_pos rfl,if_pos (by omega),List.append_assoc,o8 (by simp;omega),om,show i-min i s.length=0 by omega];rfl
 ·rw [if_neg e,List.append_assoc];by_cases hq:q<i;·rw [o6 (by simp;omega),List.getElem?_take,if_pos hq]
  ·rw [o8 (by simp;omega),om,show q-min i s.length=(q-i-1)+1 by omega];simp [pF];congr 1;omega
theorem Z4U {s:List Nat} {k i j:Nat} (hs:s.length=k) (qH:i<j) (hj:j<=k):(fy s k i j)[j-1]?=some (s.getD i 0+(j-i)):=by
 unfold fy;rw [List.append_assoc,o8 (by simp;omega),om,o6 (by simp;omega),show j-1-min i s.length=j-i-1 by omega,oh,List.getElem?_range (by omega)];simp;omega
theorem Z4W {s:List Nat} {k i j:Nat} (hs:s.length=k) (qH:i<j) (hj:j<k):∃ x,(fy s k i j)[j]?=some x:=by
 have:=Z4V (s:=s) (k:=k) (i:=i) (j:=j) hs (by omega) (by omega);exact ⟨_,oc (by omega)⟩
theorem Z4X {s:List Nat} {k i j:Nat} (hs:s.length=k) (qH:i<j) (hj:j<k):(fy s k i j).set j (s.getD i 0+(j-i)+1)=fy s k i (j+1):=by
 unfold fy;have h1:(s.take i++((List.range (j-i)).map fun q=>s.getD i 0+1+q)).length=j:=by simp;omega
 rw [List.set_append_right _ _ (by omega),h1,show j-j=0 by omega,List.drop_eq_getElem_cons (by omega),List.set_cons_zero,show j+1-i=(j-i)+1 by omega,List.range_succ,List.map_append,List.append_assoc,List.append_assoc,List.append_assoc];simp;omega
theorem Z4T {s:List Nat} {n k i:Nat} (hs:s.length=k) (ht:i_ n k s k=some i):ke n k s=some (fy s k i k):=by
 unfold ke fy;rw [ht,List.drop_eq_nil_of_le (by omega),List.append_nil]
theorem Z0a (n:Nat) (hn:1<=n) (N k:Nat) (NW:k<=N) (hN:N<=12) (L:List (List Nat)) (hL:Z6P N k L) (B1 B2:Nat) (w:World) (h1:Boxed w B1 3 (.int .i64 (k:Int))) (h2:Boxed w B2 3 (.int .i64 (N:Int))) :
  j_ Fence.wide n prog 273 #[.pointer (some ⟨B1,0,none⟩),.pointer (some ⟨B2,0,none⟩)] 3 L w:=by
 intro l J W hW hJ hY h0;obtain ⟨i0,hi,pk,hz1,hz2⟩:=info_parts jo;have HI:=oZ hi;have HZ0:=oZ pk;have HZ1:=oZ hz1;have HZ2:=oZ hz2;have hb1:Boxed W B1 3 (.int .i64 (k:Int)):=(hW.block B1 h1.lt).trans h1;have hb2:Boxed W B2 3 (.int .i64 (N:Int)):=(hW.block B2 h2.lt).trans h2;have HB1:=oZ hb1;have HB2:=oZ hb2;have HJ:=oZ hJ;have HY:=oZ hY;have H0:=oZ h0;have HL:=oZ hL;have c1:=hb1.cell;clear hi pk hz1 hz2 h1 h2 hb1 hb2 hJ hY h0 hW;refine callsIn_of_wp func273 rfl trivial ?_ rfl;simp only [ntmps273,List.size_toArray,List.length_cons,List.length_nil,Nat.reduceAdd,Nat.reduceSub,Array.replicate_succ,Array.replicate_zero,List.push_toArray,List.append_toArray,List.nil_append,List.cons_append]
 gi_wp2_with (gi_at_make;refine R1_ _ rfl _ _ 29 rfl W.heap.size 3 i0 (.int .i64 0) 1 underlying29 HI HZ0 HZ1 _ _ _ _ k rfl rfl rfl rfl ?c1 ?c2 ?c3 ?_)
 any_goals (first | (rw [HZ2.out];omega) | (unfold maxLen;omega) | exact oz _)
 intro w3 hown pQ;rw [n2_] at hown;have HS0:Hid (dE J 0 W.heap.size W.heap.size k N B1 B2 w3 (ig k 0)):=by
  refine ⟨HJ 0 W w3 none H0 pQ (fun r e=>by cases e),?_,HB1.kept pQ (by simp),HB2.kept pQ (by simp),HB1.lt,HB2.lt⟩;have e:ml (ig k 0)=(List.replicate (k*1) (0:Int)).map (Value.int .i64):=by simp [ml,ig]
  rw [e];simpa using hown
 clear hown pQ c1
 gi_wp2_with fail
 gi_loopw [12] (fun t wr=>∃ i:Nat,i<=k/\t=.int .i64 i/\Hid (dE J 0 W.heap.size W.heap.size k N B1 B2 wr (ig k i))) (fun t _=>k-(intOf t).toNat)
 case atStart=>exact ⟨0,by omega,rfl,HS0⟩
 case round =>
  obtain ⟨i,tN,rfl,HS⟩:=hrel;by_cases hlt:i<k
  ·obtain ⟨c0,f0⟩:=HS.cell (Z2F hlt);have HN:=oZ (HS.set HJ i i);rw [Z2G hlt] at HN
   gi_wp2_with fail
   go_roundw
   case rel=>exact ⟨i+1,by omega,by go_num,HN⟩
   case measure=>simp [intOf];omega
  ·obtain rfl:i=k:=(by omega);rw [Z2E] at HS;clear HS0
   gi_wp2_with fail
   gi_loopw [6] (fun t wr=>∃ (q:Nat) (s:List Nat),L[q]?=some s/\Hid (dE J q W.heap.size W.heap.size i N B1 B2 wr s)) (fun _ wr=>1000000000000000000-Z7s wr W.heap.size i)
   case atStart=>exact ⟨0,_,HL.head,HS⟩
   case round =>
    obtain ⟨q,s,hq,HT⟩:=hrel;have HQ:=oZ hq;have HEN:=oZ HT.enc;have HBD:=oZ (HL.bd s (og hq));have hsl:=HL.len s (og hq);have HSL:=oZ hsl;have e1:=HT.b1.cell;have e2:=HT.b2.cell;obtain ⟨fn,tmps,assign,body,EV,hR⟩:=HY q s _ wr hq HT.j HT.setAt;have hle:(i:Int)<=(N:Int):=(by omega);clear hsl hq
    gi_wp2_with fail
    refine hR.mono ?_;rintro e W3 ⟨rfl,DA,hk3⟩;have HT3:=oZ (HT.round DA hk3);have d1:=HT3.b1.cell;have d2:=HT3.b2.cell;clear hR EV e1 e2 DA hk3;have p1:IntKind.i64.wrap ((i:Int)-1)=(i:Int)-1:=(by rw [IntKind.wrap_i64];omega);have p2:IntKind.i64.wrap ((N:Int)-(i:Int))=(N:Int)-(i:Int):=(by rw [IntKind.wrap_i64];omega);have G7:Hid (∀ m,dE J (q+1) W.heap.size W.heap.size i N B1 B2 (W3.drewN m) s):=fun m=>HT3.drawn HJ m
    gi_wp2_with fail
    gi_loopw [6] (fun t wr=>∃ (r:Nat) (x:Int),r<=i/\t=.int .i64 x/\x=(r:Int)-1/\Hid (dE J (q+1) W.heap.size W.heap.size i N B1 B2 wr s)/\Hid (i_ N i s i=i_ N i s r)) (fun t _=>(intOf t+1).toNat)
    case atStart=>exact ⟨i,(i:Int)-1,oz _,rfl,rfl,HT3,rfl⟩
    case round =>
     obtain ⟨r,x,r6,rfl,hx,HT4,zp⟩:=hrel;clear d1 d2 p1;have e1:=HT4.b1.cell;have e2:=HT4.b2.cell;have HTD:Hid (∀ m,dE J (q+1) W.heap.size W.heap.size i N B1 B2 (wr.drewN m) s):=fun m=>HT4.drawn HJ m;cases r with
     | zero =>
      obtain rfl:x=-1:=(by omega);have HEND:Hid (q+1=L.length):=by
       have h1:ke N i s=none:=by
        unfold ke;have:i_ N i s i=none:=zp.out;rw [this]
       have h2:=HL.next q s HQ
       rw [h1] at h2;have h3:=List.getElem?_eq_none_iff.1 h2.symm;have h4:=(od.1 HQ).1;unfold Hid;omega
      clear hx
      gi_wp2_with fail
      gi_quiet (fail)
      gi_wp2_with fail
      refine bodyPost_ret (results_none rfl _ _ _) rfl ⟨⟨_,rfl⟩,?_⟩;rw [<- HEND.out];exact (HTD _).j
     | succ r =>
      obtain rfl:x=(r:Int):=(by omega);have vR:r<s.length:=(by rw [HSL.out];omega);obtain ⟨v,hv⟩:∃ v,s[r]?=some v:=⟨_,oc vR⟩;have hvN:=HL.lt s (og HQ) v (og hv);obtain ⟨g1,g2⟩:=HT4.cell hv;have HV:=oZ hv;have qj:s.getD r 0=v:=(by rw [oe,hv];rfl);have HGD:=oZ qj;have p3:IntKind.i64.wrap ((N:Int)-(i:Int)+(r:Int))=(N:Int)-(i:Int)+(r:Int):=(by rw [IntKind.wrap_i64];omega);have p4:(0:Int)<=(r:Int):=(by omega);have p5:(r:Int)<(i:Int):=(by omega);by_cases tH:v+i=N+r
      ·have hq:((v:Int) == (N:Int)-(i:Int)+(r:Int))=true:=(by rw [beq_iff_eq];omega);have x9:Hid (i_ N i s i=i_ N i s r):=by
        unfold Hid;rw [zp.out];show (if s.getD r 0+i=N+r then i_ N i s r else some r)=_;rw [qj,if_pos tH]
       have p6:IntKind.i64.wrap ((r:Int)-1)=(r:Int)-1:=(by rw [IntKind.wrap_i64];omega);clear hx hv qj tH vR zp
       gi_wp2_with fail
       gi_quiet (fail)
       gi_wp2_with fail
       go_roundw
       case rel=>exact ⟨r,(r:Int)-1,by omega,by go_num,rfl,HTD _,x9⟩
       case measure=>simp [intOf] <;> omega
      ·have hq:((v:Int) == (N:Int)-(i:Int)+(r:Int))=false:=(by rw [beq_eq_false_iff_ne];omega);have x9:Hid (i_ N i s i=some r):=by
        unfold Hid;rw [zp.out];show (if s.getD r 0+i=N+r then i_ N i s r else some r)=_;rw [qj,if_neg tH]
       have p6:¬ (r:Int)<0:=(by omega);have p7:IntKind.i64.wrap ((v:Int)+1)=(v:Int)+1:=(by rw [IntKind.wrap_i64];omega);have p8:IntKind.i64.wrap ((r:Int)+1)=(r:Int)+1:=(by rw [IntKind.wrap_i64];omega);have HSET:Hid (∀ m,dE J (q+1) W.heap.size W.heap.size i N B1 B2 ((wr.drewN m).setCell ⟨W.heap.size,r,none⟩ (.int .i64 ((v:Int)+1))) (fy s i r (r+1))):=fun m=>by
        have:=(HTD m).set HJ r (v+1);rw [<- qj,Z11 HSL.out (by omega),qj] at this;exact this
       clear hx hv qj tH vR zp
       gi_wp2_with fail
       gi_quiet (fail)
       gi_wp2_with fail
       gi_loopw [7] (fun t wr=>∃ j:Nat,r<j/\j<=i/\t=.int .i64 (j:Int)/\Hid (dE J (q+1) W.heap.size W.heap.size i N B1 B2 wr (fy s i r j))) (fun t _=>i-(intOf t).toNat)
       case atStart=>exact ⟨r+1,by omega,by omega,by go_num,HSET _⟩
       case round =>
        obtain ⟨j,BO,wE,rfl,Bi⟩:=hrel;clear g1 g2 e1 e2;have e1:=Bi.b1.cell;by_cases hlt2:j<i
        ·obtain ⟨y,hy⟩:=Z4W (s:=s) HSL BO hlt2;have hz:=Z4U (s:=s) HSL BO wE;obtain ⟨g1,g2⟩:=Bi.cell hy;obtain ⟨g3,g4⟩:=Bi.cell hz;have hb1:=HL.lt s (og HQ) v (og HV);have HN:=oZ (Bi.set HJ j (s.getD r 0+(j-r)+1));rw [Z4X HSL.out BO hlt2] at HN;obtain ⟨z,hzz⟩:=pL (s.getD r 0+(j-r));rw [<- hzz] at g3 HN;have hzb:z<100:=(by rw [hzz,HGD.out];omega);have rF:Hid (dE J (q+1) W.heap.size W.heap.size i N B1 B2 (wr.setCell ⟨W.heap.size,j,none⟩ (.int .i64 ((z:Int)+1))) (fy s i r (j+1))):=HN.out;have p9:IntKind.i64.wrap ((z:Int)+1)=(z:Int)+1:=(by rw [IntKind.wrap_i64];omega);have M9:IntKind.i64.wrap ((j:Int)-1)=((j-1:Nat):Int):=(by rw [IntKind.wrap_i64];omega);have M8:IntKind.i64.wrap ((j:Int)+1)=(j:Int)+1:=(by rw [IntKind.wrap_i64];omega);have M7:(0:Int)<=((j-1:Nat):Int):=(by omega);have M6:((j-1:Nat):Int)<(i:Int):=(by omega);have M5:(j:Int)<(i:Int):=(by omega);clear hy hz hzz HN
         gi_wp2_with fail
         go_roundw
         case rel=>exact ⟨j+1,by omega,by omega,by go_num,rF⟩
         case measure=>simp [intOf] <;> omega
        ·obtain rfl:j=i:=(by omega);have hnx:=HL.next q s HQ
         rw [Z4T HSL.out x9.out] at hnx;have HNX:=oZ hnx.symm;have HUP:=oZ (HL.up q s _ HQ hnx.symm);have HE6:=oZ Bi.enc;clear hnx
         gi_wp2_with fail
         go_roundw
         case rel=>exact ⟨q+1,_,HNX,Bi⟩
         case measure =>
          have a1:=HEN.out;have a2:=HE6.out;have a3:=HUP.out;have a4:=HBD.out;omega
end Go.Proofs.YtoonaddcfakamaaGreatDoor
namespace Go.Proofs.YtoonaddcfakamaaGreatDoor
open Go.RowKit Go.Proofs.Tryz
theorem v6_:(prog.info? 36).map (fun i=>(i.zero,i.size,i.bytes))=some (some (.slice none 0 0),1,24):=by kernel_rfl
theorem fK.ofOwn {w:World} {B g n c:Nat} {xs:pN} (h:w.ownsRow B 3 1 (.slice (some ⟨g,0,none⟩) n c) n (xs.map (Value.int .i64 ·))):fK w g xs:=by
 have hl:=h.lt g (by simp [Value.ownBlock]);have hc:=h.cells (g:=g) (by simp [Value.ownBlock]);refine ⟨hl.2,fun j x hx=>?_,fun j=>h.frozenAt j⟩;have:=hc j (.int .i64 x) (by rw [oh,hx];rfl);rw [show (⟨g,0,none⟩:Addr).add j=⟨g,j,none⟩ by unfold Addr.add;split <;> simp_all] at this;exact this
theorem fK.set {w:World} {g:Nat} {xs:pN} (h:fK w g xs) (k:Nat) (hk:k<xs.length) (y:Int):fK (w.setCell ⟨g,k,none⟩ (.int .i64 y)) g (xs.set k y):=by
 refine ⟨by rw [g_];exact h.lt,fun j x hj=>?_,fun j=>by rw [nx];exact h.free j⟩;rw [pH] at hj;by_cases e:k=j
 ·subst e;rw [if_pos rfl,if_pos hk] at hj;cases hj;exact World.cell?_setCell_same w _ _ (h.cell k _ (oc hk))
 ·rw [if_neg e] at hj;rw [World.cell?_setCell_other _ _ _ _ (by intro e2;simp only [Addr.mk.injEq] at e2;omega)];exact h.cell j x hj
theorem fK.ext {w w':World} {g:Nat} {xs:pN} (h:fK w g xs) (he:aA w w'):fK w' g xs:=h.same he.size (he.block g h.lt)
theorem fK.ints {w:World} {g c:Nat} {xs:pN} (h:fK w g xs) (h1:xs.length<=c) (h2:c<=9223372036854775807) (hb:∀ x∈xs,-9223372036854775808<=x/\x<=9223372036854775807):aM w (.slice (some ⟨g,0,none⟩) xs.length c) xs:=by
 refine ⟨xs.map fun x=>[Value.int .i64 x],by simp,by simp,?_,?_⟩
 ·rw [eR];refine ⟨_,c,rfl,h1,by unfold maxLen;omega,fun e=>by simp at e,fun _=>⟨g,0,rfl,h.lt,fun j u hu=>?_⟩⟩;rw [oh] at hu;obtain ⟨x,hx,rfl⟩:=Option.map_eq_some_iff.1 hu;rw [Nat.zero_add];exact h.cell j x hx
 ·intro j u x hu hx;simp only [oh,hx,Option.map_some,Option.some.injEq] at hu;exact ⟨hu.symm,hb x (og hx)⟩
theorem bu.rows2 {e:TypeId} {w:World} {ob base:Nat} {v:Value} {tags:List (Nat×Nat)} {m:pM} (h:bu Z7u e w ob base v tags m) (hb:∀ r∈m,∀ x∈r,-9223372036854775808<=x/\x<=9223372036854775807):aw w v m:=by
 have hl:=Z3W (m:=m) h.len;refine ⟨(iz tags m).map fun u=>[u],by simp [hl],by simp,?_,?_⟩
 ·have:=dN.of_owns h.own;rw [eR (fun u:Value=>u),List.map_id'];exact this
 ·intro j u x hu hx;have hj:j<tags.length:=by rw [h.len];exact (od.1 hx).1
  have ht:tags[j]?=some tags[j]:=oc hj;obtain ⟨h1,h2,h3,-,-⟩:=h.row j _ x ht hx;rw [oh] at hu;unfold iz at hu;rw [List.getElem?_zipWith,ht,hx] at hu;simp only [Option.map_some,Option.some.injEq] at hu;exact ⟨_,hu.symm,fK.ints h3 h1 h2 (hb x (og hx))⟩
def cK (m:pM) (R C:List Nat):pM:=R.map fun i=>C.map fun j=>(m.getD i []).getD j 0
theorem ll (m:pM) (R C:List Nat):(cK m R C).length=R.length:=by simp [cK]
theorem P7_ (m:pM) (R C:List Nat):b_ C.length (dy (cK m R C)):=by
 intro r hr;unfold dy cK at hr;obtain ⟨q,hq,rfl⟩:=List.mem_map.1 hr;obtain ⟨i,-,rfl⟩:=List.mem_map.1 hq;simp [dB]
theorem Z6t {m:pM} {R C:List Nat} {i j a b:Nat} (hi:R[i]?=some a) (hj:C[j]?=some b):aJ (dy (cK m R C)) i j=(((m.getD a []).getD b 0:Int):Rat):=by
 refine ns ?_;rw [lr (r:=dB (C.map fun j=>(m.getD a []).getD j 0))];·simp [dB,hj]
 ·simp [dy,cK,hi]
end Go.Proofs.YtoonaddcfakamaaGreatDoor
namespace Go.Proofs.YtoonaddcfakamaaGreatDoor
open Go.RowKit Go.Shelf Go.Proofs.Tryz
theorem D8_ (n k:Nat) (w:World) (hn:n<=12) (hk:k<=n) :
  pJ 201 #[.int .i64 (n:Int),.int .i64 (k:Int)] w (.int .i64 (eH n k:Int)):=by
 have HB:Hid (∀ i,i<=k->eH n i<=1000):=fun i hi=>by
  obtain ⟨-,h1,h2⟩:=oN (n:=n) (k:=i) hn (by omega);omega
 go_enter func201,ntmps201
 go_wp2
 go_loopw [8,5] (fun t v wr=>∃ i:Nat,i<=k/\t=.int .i64 (i:Int)/\v=.int .i64 (eH n i:Int)/\w=wr) (fun t _ _=>k-(intOf t).toNat)
 case atStart=>exact ⟨0,by omega,rfl,rfl,rfl⟩
 case round =>
  obtain ⟨i,hi,rfl,rfl,rfl⟩:=hrel;by_cases hlt:i<k
  ·have hb:=HB i hi;obtain ⟨c,hc⟩:=pL (eH n i);have hnx:eH n (i+1)=c*(n-i) / (i+1):=(by rw [hc];rfl);rw [<- hc] at hb |-;have hmb:c*(n-i)<=1000*12:=Nat.mul_le_mul hb (by omega);have e1:(c:Int)*((n:Int)-(i:Int))=((c*(n-i):Nat):Int):=by
    rw [Int.natCast_mul,Int.ofNat_sub (show i<=n by omega)]
   have p1:IntKind.i64.wrap ((n:Int)-(i:Int))=(n:Int)-(i:Int):=(by rw [IntKind.wrap_i64];omega);have p2:IntKind.i64.wrap ((c:Int)*((n:Int)-(i:Int)))=((c*(n-i):Nat):Int):=(by rw [e1,IntKind.wrap_i64];omega);have p3:IntKind.i64.wrap ((i:Int)+1)=(i:Int)+1:=(by rw [IntKind.wrap_i64];omega);have p4:((((c*(n-i):Nat):Int)).tdiv ((i:Int)+1))=(eH n (i+1):Int):=by
    rw [hnx];rfl
   have hle:eH n (i+1)<=12000:=by
    rw [hnx];exact ow (Nat.div_le_self _ _) hmb
   have p5:wrap64 (eH n (i+1):Int)=(eH n (i+1):Int):=(by unfold wrap64;omega);have p6:((i:Int)+1 == 0)=false:=(by rw [beq_eq_false_iff_ne];omega);have p7:¬ ((i:Int)+1=0):=(by omega);clear hc hnx e1 hmb hle hb
   go_wp2
   go_roundw
   case rel=>refine ⟨i+1,by omega,by go_num,by rw [<- Int.natCast_mul,p4];exact congrArg _ p5,by first | rfl | trivial⟩
   case measure=>simp [intOf];omega
  ·obtain rfl:i=k:=by omega
   go_wp2
   go_ret;exact ⟨rfl,rfl⟩
theorem Z0b (n k:Int) (w:World) :
  Calls prog 202 #[.int .i64 n,.int .i64 k] w fun e w'=>e=.returned (.func (.func 273) #[] #[.pointer (some ⟨w.heap.size+1,0,none⟩),.pointer (some ⟨w.heap.size,0,none⟩)])/\w'=(w.alloc (.cells #[.int .i64 n] 3)).alloc (.cells #[.int .i64 k] 3):=by
 go_enter func202,ntmps202
 go_wp2
 go_ret;exact ⟨rfl,rfl⟩
def fu (B:Nat) (w:World) (v:Value) (l:pN):Prop:=w.ownsRow B 3 1 v l.length (l.map (Value.int .i64 ·))
theorem fu.ext {B:Nat} {w w':World} {v:Value} {l:pN} (h:fu B w v l) (he:aA w w'):fu B w' v l:=et h he
theorem R4_ {o:Oper} {a:Act} {K:Act->World->Prop} {Q:Exit->Act->World->Prop} (w:World) (s x:Operand) (T2:TypeId) (zz:prog.underlying T2=some (TypeDesc.slice 3)) (ho:o.op=Op.call { callee:=Callee.builtin Builtin.append,args:=#[s,x],argTypes:=#[T2,T2] }) (B:Nat)
  (v:Value) (l:pN) (y:Int) (u:Array Value) (T:TypeId) (hs:a.eval s=v) (hB:fu B w v l) (hx:a.eval x=.slice (some ⟨w.heap.size,0,none⟩) 1 1) (hu:u=#[.int .i64 y]) (hlen:l.length<1000000) (pX:B<=w.heap.size)
  (h:∀ v' w',fu B w' v' (l++[y])->Below B w w'->K (a.put o.dst v') w'):o.wp prog a (w.alloc (.cells u T)) K Q:=by
 subst hu;obtain ⟨i0,hi,hz,pZ,qK⟩:=info_parts jo;have py:∀ j,(⟨w.heap.size,0,none⟩:Addr).add j=⟨w.heap.size,j,none⟩:=by intro j;unfold Addr.add;split <;> simp_all
 have hE:aA w (w.alloc (.cells #[.int .i64 y] T)):=aA.alloc _ _;refine iR (w.alloc (.cells #[.int .i64 y] T)) s x T2 ho B 3 i0 (.int .i64 0) 1 8 zz hi hz pZ qK rfl (by decide) v l.length (l.map (Value.int .i64 ·)) hs (hB.ext hE) ⟨w.heap.size,0,none⟩ 1 1 [.int .i64 y] hx rfl ?_ ?_ ?_ ?_ ?_ ?_
 ·intro j q hq;rw [py,World.cell?_alloc_new];simpa using hq
 ·intro u hu;rw [List.mem_singleton.1 hu];rfl
 ·unfold maxLen;omega
 ·omega
 ·simp;omega
 ·intro v' w' hown pQ _ qb;have rG:fu B w' v' (l++[y]):=by
   unfold fu;rw [pG,List.map_append];exact hown
  have qP:w.grownBy w' v.ownBlock:=gO (hE.grown _) pQ;refine h v' w' rG ⟨qP.os,qP.tape,qP.output,qP.size,fun b hb=>qP.block b (by omega) fun e=>?_⟩;have:=(World.ownsRow.lt hB b e.symm).1;omega
def eZ (l:pN):List Value:=l.map fun n=>Value.string (aB n)
def numC (_:World) (u:List Value) (n:Int):Prop:=u=[.string (aB n)]
theorem numC.mono:iE numC:=fun _ _ _ _ _ h=>h
theorem numC.of_owns {w:World} {B:Nat} {v:Value} {L:pN} (h:w.ownsRow B 92 1 v L.length (eZ L)):aN 1 numC w v L:=by
 refine ⟨L.map fun n:Int=>[Value.string (aB n)],by simp,by simp,?_,?_⟩
 ·rw [eR (fun n:Int=>Value.string (aB n))];exact dN.of_owns h
 ·intro j u x hu hx;rw [oh,hx] at hu;exact (o5 hu).symm
theorem nz:(prog.info? 92).map (fun i=>(i.zero,i.size,i.bytes))=some (some (.string ⟨#[]⟩),1,16):=by kernel_rfl
theorem s8_ {o:Oper} {a:Act} {K:Act->World->Prop} {Q:Exit->Act->World->Prop} (F:World) (s x:Operand) (ho:o.op=Op.call { callee:=Callee.builtin Builtin.append,args:=#[s,x],argTypes:=#[48,48] }) (B:Nat)
  (vo:Value) (L:pN) (y:Int) (u:Array Value) (T:TypeId) (hs:a.eval s=vo) (hB:F.ownsRow B 92 1 vo L.length (eZ L)) (hx:a.eval x=.slice (some ⟨F.heap.size,0,none⟩) 1 1) (hu:u=#[.string (aB y)]) (hlen:L.length<8000000) (pX:B<=F.heap.size)
  (h:∀ v' w',w'.ownsRow B 92 1 v' (L.length+1) (eZ L++[.string (aB y)])->(F.alloc (.cells u T)).grownBy w' vo.ownBlock->K (a.put o.dst v') w'):o.wp prog a (F.alloc (.cells u T)) K Q:=by
 subst hu;obtain ⟨i0,hi,hz,pZ,qK⟩:=info_parts nz;have py:∀ j,(⟨F.heap.size,0,none⟩:Addr).add j=⟨F.heap.size,j,none⟩:=by intro j;unfold Addr.add;split <;> simp_all
 refine iR (F.alloc (.cells #[.string (aB y)] T)) s x _ ho B 92 i0 (.string ⟨#[]⟩) 1 16 underlying48 hi hz pZ qK rfl (by decide) vo L.length (eZ L) hs (hB.alloc _) ⟨F.heap.size,0,none⟩ 1 1 [.string (aB y)] hx rfl ?_ ?_ ?_ ?_ ?_ ?_
 ·intro j q hq;rw [py,World.cell?_alloc_new];simpa using hq
 ·intro u hu;rw [List.mem_singleton.1 hu];rfl
 ·unfold maxLen;omega
 ·omega
 ·simp;omega
 ·intro v' w' hown pQ _ _;exact h v' w' hown pQ
theorem Z4_ {α β:Type} (f:α->List β) (c:Nat) (h:∀ x,(f x).length=c):∀ l:List α,(l.flatMap f).length=l.length*c
 | []=>by simp
 | x::l=>by rw [List.flatMap_cons,pG,h,Z4_ f c h l,List.length_cons,Nat.succ_mul];omega
structure fG (w W:World) (Bm Bk Bo:Nat) (vm:Value) (k:Nat) (L:pN):Prop where
 bm:Boxed W Bm 32 vm
 bk:Boxed W Bk 3 (.int .i64 (k:Int))
 out:∃ vo,Boxed W Bo 48 vo/\W.ownsRow w.heap.size 92 1 vo L.length (eZ L)
 old:aA w W
 low:w.heap.size<=Bo/\w.heap.size<=Bm/\w.heap.size<=Bk
theorem Y5_ {W W':World} {B:Nat} {t:TypeId} {v:Value} {row:Option Nat} (h:Boxed W B t v) (hg:W.grownBy W' row) (hr:row≠some B):Boxed W' B t v:=h.kept hg (fun e=>hr (by first | exact e.symm | exact e | simpa using e.symm))
theorem fG.grown {w W W':World} {Bm Bk Bo:Nat} {vm:Value} {k:Nat} {L:pN} (h:fG w W Bm Bk Bo vm k L) {row:Option Nat} (hg:W.grownBy W' row) (h1:row≠some Bm) (h2:row≠some Bk) (h3:row≠some Bo) (h4:∀ r,row=some r->w.heap.size<=r/\∀ C fr,W.heap[r]?≠some (.cells C 92 fr)):fG w W' Bm Bk Bo vm k L:=by
 obtain ⟨vo,ho,hown⟩:=h.out;refine ⟨Y5_ h.bm hg h1,Y5_ h.bk hg h2,⟨vo,Y5_ ho hg h3,hown.kept hg ?_⟩,?_,h.low⟩
 ·cases row with
  | none=>cases hv:vo.ownBlock <;> simp
  | some r =>
   refine .inr fun e=>?_;rcases hown.2 with ⟨rfl,-⟩ | ⟨g,cap,cur,rfl,-,sh,-⟩
   ·simp [Value.ownBlock] at e
   ·simp only [Value.ownBlock,Option.some.injEq] at e;subst e;exact (h4 g rfl).2 _ _ sh
 ·refine Below.trans h.old ⟨hg.os,hg.tape,hg.output,hg.size,fun b hb=>hg.block b (ov hb h.old.size) fun e=>?_⟩;have:=(h4 b e.symm).1;omega
theorem fG.ext {w W W':World} {Bm Bk Bo:Nat} {vm:Value} {k:Nat} {L:pN} (h:fG w W Bm Bk Bo vm k L) (he:aA W W'):fG w W' Bm Bk Bo vm k L :=
 h.grown (he.grown none) (by simp) (by simp) (by simp) (fun r e=>by cases e)
structure c_ (n0 Bo:Nat) (A B:World):Prop where
 os:B.os=A.os
 tape:B.tape=A.tape
 output:B.output=A.output
 size:A.heap.size<=B.heap.size
 block:∀ b,b<A.heap.size->(b<n0\/(b≠Bo/\∀ C fr,A.heap[b]?≠some (.cells C 92 fr)))->B.heap[b]?=A.heap[b]?
theorem c_.refl (n0 Bo:Nat) (A:World):c_ n0 Bo A A:=⟨rfl,rfl,rfl,oz _,fun _ _ _=>rfl⟩
theorem c_.trans {n0 Bo:Nat} {A B C:World} (h:c_ n0 Bo A B) (g:c_ n0 Bo B C):c_ n0 Bo A C :=
 ⟨g.os.trans h.os,g.tape.trans h.tape,g.output.trans h.output,ow h.size g.size,fun b hb hc=>by
  have e:=h.block b hb hc;refine (g.block b (ov hb h.size) ?_).trans e;rcases hc with hc | ⟨h1,h2⟩
  ·exact .inl hc
  ·exact .inr ⟨h1,by rw [e];exact h2⟩⟩
theorem c_.grown {n0 Bo:Nat} {A B:World} {row:Option Nat} (hg:A.grownBy B row) (hr:∀ r,row=some r->r<A.heap.size->n0<=r/\(r=Bo\/∃ C fr,A.heap[r]?=some (.cells C 92 fr))):c_ n0 Bo A B :=
 ⟨hg.os,hg.tape,hg.output,hg.size,fun b hb hc=>hg.block b hb fun e=>by
  obtain ⟨h1,h2⟩:=hr b e.symm hb;rcases hc with hc | ⟨k1,k2⟩
  ·omega
  ·rcases h2 with h2 | ⟨C,fr,h2⟩
   ·exact k1 h2
   ·exact k2 C fr h2⟩
theorem c_.ext {n0 Bo:Nat} {A B:World} (h:aA A B):c_ n0 Bo A B:=⟨h.os,h.tape,h.output,h.size,fun b hb _=>h.block b hb⟩
theorem c_.later {n0 Bo:Nat} {A B C:World} (h:c_ n0 Bo A B) {row:Option Nat} (hg:B.grownBy C row) (hr:∀ r,row=some r->A.heap.size<=r):c_ n0 Bo A C :=
 ⟨hg.os.trans h.os,hg.tape.trans h.tape,hg.output.trans h.output,ow h.size hg.size,fun b hb hc=>(hg.block b (ov hb h.size) (fun e=>by have:=hr b e.symm;omega)).trans (h.block b hb hc)⟩
theorem jd.cells {T:TypeId} {W:World} {g n:Nat} {s:List Nat} (h:jd T W (.slice (some ⟨g,0,none⟩) n n) s) {j x:Nat} (hx:s[j]?=some x):W.cell? ⟨g,j,none⟩=some (.int .i64 (x:Int)):=by
 obtain ⟨g',C,fr,hv,-,hc⟩:=h.at_;simp only [Value.slice.injEq,Option.some.injEq,Addr.mk.injEq] at hv;obtain ⟨⟨rfl,-,-⟩,-,-⟩:=hv;exact hc j x hx
def fo (xs:pN) (C:List Nat) (q:Nat):List Int:=(C.take q).map fun y=>xs.getD y 0
theorem Z1b {xs:pN} {C:List Nat} {q y:Nat} {z:Int} (hy:C[q]?=some y) (hz:xs[y]?=some z):fo xs C (q+1)=fo xs C q++[z]:=by
 unfold fo;rw [ou,hy,List.map_append];simp [hz]
theorem l1_ {xs:pN} {C:List Nat} {q:Nat} (h:q<=C.length):(fo xs C q).length=q:=by
 unfold fo;simp;omega
theorem Z3i {m:pM} {xs:pN} {C:List Nat} {x k:Nat} (h:C.length=k) (hx:m.getD x []=xs):fo xs C k=C.map fun j=>(m.getD x []).getD j 0:=by
 unfold fo;rw [hx,<- h,List.take_length]
theorem Z56 {m:pM} {R C:List Nat} (h:∀ r∈m,∀ x∈r,-1000000000<=x/\x<=(1000000000:Int)):∀ r∈cK m R C,∀ x∈r,-1000000000<=x/\x<=(1000000000:Int):=by
 intro r hr x hx;unfold cK at hr;obtain ⟨i,-,rfl⟩:=List.mem_map.1 hr;obtain ⟨j,-,rfl⟩:=List.mem_map.1 hx;rw [oe,oe];cases hi:m[i]? with
 | none=>simp
 | some q =>
  cases hj:q[j]? with
  | none=>simp [hj]
  | some y=>simpa [hj] using h q (og hi) y (og hj)
theorem m6_ {m:pM} {R C:List Nat}:∀ r∈cK m R C,r.length=C.length:=by
 intro r hr;unfold cK at hr;obtain ⟨i,-,rfl⟩:=List.mem_map.1 hr;simp
theorem Z1a {m:pM} {R C:List Nat} {p x:Nat} (h:R[p]?=some x):cK m (R.take (p+1)) C=cK m (R.take p) C++[C.map fun j=>(m.getD x []).getD j 0]:=by
 unfold cK;rw [ou,h,List.map_append];rfl
theorem c_.keepT {n0 Bo:Nat} {A B:World} (h:c_ n0 Bo A B) (hB:∀ C fr,A.heap[Bo]?≠some (.cells C 3 fr)):ft 3 A B :=
 ⟨h.size,fun b C fr hb=>(h.block b (cG hb) (.inr ⟨fun e=>hB C fr (by rw [<- e];exact hb),fun C' fr' e=>(by rw [hb] at e;simp at e)⟩)).trans hb⟩
theorem c_.keepF {n0 Bo B0:Nat} {A B:World} (h:c_ n0 Bo A B) (hB:∀ o:Obj,A.heap[Bo]?=some o->o.isCells=true):KeepsFrom B0 A B :=
 ⟨h.size,fun b o _ hb ho=>(h.block b (cG hb) (.inr ⟨fun e=>(by rw [e] at hb;rw [hB o hb] at ho;cases ho),fun C' fr' e=>(by rw [hb] at e;cases e;simp [Obj.isCells] at ho)⟩)).trans hb⟩
theorem fG.box {w W:World} {Bm Bk Bo:Nat} {vm:Value} {k:Nat} {L:pN} (h:fG w W Bm Bk Bo vm k L):(∀ C fr,W.heap[Bo]?≠some (.cells C 3 fr))/\∀ o:Obj,W.heap[Bo]?=some o->o.isCells=true:=by
 obtain ⟨vo,ho,-⟩:=h.out;have ho2:W.heap[Bo]?=some (.cells #[vo] 48 (0,0)):=ho;refine ⟨fun C fr e=>?_,fun o e=>?_⟩;·rw [ho2] at e;simp at e
 ·rw [ho2] at e;cases e;rfl
theorem fG.push {w F w1:World} {Bm Bk Bo:Nat} {vm:Value} {k:Nat} {L:pN} (h:fG w F Bm Bk Bo vm k L) {vo v':Value} {tmp:Obj} (qe:Boxed F Bo 48 vo) (hown:F.ownsRow w.heap.size 92 1 vo L.length (eZ L)) (x:Int)
  (qT:w1.ownsRow w.heap.size 92 1 v' (L.length+1) (eZ L++[.string (aB x)])) (pQ:(F.alloc tmp).grownBy w1 vo.ownBlock) (h1:Bm≠Bo) (h2:Bk≠Bo) :
  fG w (w1.setCell ⟨Bo,0,none⟩ v') Bm Bk Bo vm k (L++[x])/\c_ w.heap.size Bo F (w1.setCell ⟨Bo,0,none⟩ v')/\w1.cell? ⟨Bo,0,none⟩=some vo/\w1.frozen? ⟨Bo,0,none⟩=false:=by
 obtain ⟨hv1,hv2,pn,hk2,hb2⟩:=qe.appended (by decide) hown h.old.size h.low.1 qT pQ;have b1:Boxed w1 Bm 32 vm:=(h.bm.alloc tmp).kept pQ (h.bm.not_row (by decide) hown);have b2:Boxed w1 Bk 3 (.int .i64 (k:Int)):=(h.bk.alloc tmp).kept pQ (h.bk.not_row (by decide) hown);refine ⟨⟨b1.other h1 v',b2.other h2 v',⟨v',hv2,?_⟩,Below.trans h.old hb2,h.low⟩,?_,hv1.cell,hv1.frozen⟩
 ·rw [pG,show eZ (L++[x])=eZ L++[.string (aB x)] from by simp [eZ]];exact pn
 ·refine ((c_.ext (aA.alloc F tmp)).trans (c_.grown pQ fun r e hlt=>?_)).trans (c_.grown (fT w1 Bo 0 v') fun r e hlt=>?_)
  ·rcases hown.2 with ⟨rfl,-⟩ | ⟨g,cap,cur,rfl,hg1,sh,-⟩
   ·simp [Value.ownBlock] at e
   ·simp only [Value.ownBlock,Option.some.injEq] at e;subst e;exact ⟨hg1,.inr ⟨_,_,aF sh (aA.alloc F tmp)⟩⟩
  ·have e:=o5 e;subst e;exact ⟨h.low.1,.inl rfl⟩
attribute [local go_sem] Oper.semAt_some
def lV (xss:pM) (k:Nat) (R C:List Nat):Int:=(aq (dy (cK xss R C)) k).det.num
def f_ (xss:pM) (k:Nat):List Int:=(be xss.length k).flatMap fun R=>(be (bP xss) k).map fun C=>lV xss k R C
def eY (xss:pM) (k i:Nat):List Int:=((be xss.length k).take i).flatMap fun R=>(be (bP xss) k).map fun C=>lV xss k R C
def fl (xss:pM) (k:Nat) (R:List Nat) (j:Nat):List Int:=((be (bP xss) k).take j).map fun C=>lV xss k R C
theorem Z12 {xss:pM} {k i:Nat} {R:List Nat} (h:(be xss.length k)[i]?=some R):eY xss k (i+1)=eY xss k i++fl xss k R (be (bP xss) k).length:=by
 unfold eY fl;rw [ou,h,List.take_length,List.flatMap_append];simp
theorem g8_ {xss:pM} {k j:Nat} {R C:List Nat} (h:(be (bP xss) k)[j]?=some C):fl xss k R (j+1)=fl xss k R j++[lV xss k R C]:=by
 unfold fl;rw [ou,h,List.map_append];simp
theorem Z37 (xss:pM) (k i j:Nat) (R:List Nat) (h1:(be xss.length k).length<=1000) (h2:(be (bP xss) k).length<=1000):(eY xss k i++fl xss k R j).length<8000000:=by
 unfold eY fl;rw [pG,Z4_ _ (be (bP xss) k).length (fun R=>by simp),List.length_map,om,om];have:=Nat.mul_le_mul (show min i (be xss.length k).length<=1000 by omega) h2;omega
theorem Z36 (xss:pM) (k:Nat):eY xss k (be xss.length k).length=f_ xss k:=by
 unfold eY f_;rw [List.take_length]
theorem Z13 (xss:pM) (k:Nat) (v:Value) (w:World) (h:aw w v xss) (hE:cL xss=0) (hk1:k<=xss.length) (hk2:k<=bP xss) (wI:eH xss.length k*eH (bP xss) k<=1000)
  (hok:∀ R∈be xss.length k,∀ C∈be (bP xss) k,∀ c,c<k->gK 2500 (aq (dy (cK xss R C)) c).m/\RS 9000 (aq (dy (cK xss R C)) c).det) (ht:ag w) :
  Calls prog 101 #[v,.int .i64 (k:Int)] w fun e w'=>∃ r,e=.returned (.tuple #[r,.int .i64 0])/\w'.ownsRow w.heap.size 92 1 r (f_ xss k).length (eZ (f_ xss k))/\aA w w':=by
 obtain ⟨hl,re⟩:=ko hE;have hcl:bP xss<=12:=by
  unfold bP;cases xss with
  | nil=>simp
  | cons r l=>exact (re r (by simp)).2.1
 have HCH:Hid (∀ W,aA w W->pI 100 #[v] W (.int .i64 0)):=fun W hW=>by
  have:=nC xss v W (h.ext hW);rw [hE] at this;exact this
 have HCO:Hid (∀ W,aA w W->Calls prog 200 #[v] W fun e w'=>e=.returned (.int .i64 (bP xss:Int))/\w'=W):=fun W hW=>(Y7_ xss v W (h.ext hW)).mono fun _ _ ⟨a,b⟩=>⟨a,b.symm⟩
 have HC1:Hid (∀ W,Calls prog 201 #[.int .i64 (xss.length:Int),.int .i64 (k:Int)] W fun e w'=>e=.returned (.int .i64 (eH xss.length k:Int))/\w'=W):=fun W=>(D8_ _ _ W hl hk1).mono fun _ _ ⟨a,b⟩=>⟨a,b.symm⟩
 have HC2:Hid (∀ W,Calls prog 201 #[.int .i64 (bP xss:Int),.int .i64 (k:Int)] W fun e w'=>e=.returned (.int .i64 (eH (bP xss) k:Int))/\w'=W):=fun W=>(D8_ _ _ W hcl hk2).mono fun _ _ ⟨a,b⟩=>⟨a,b.symm⟩
 have HROWS:=oZ h;have HT:=oZ ht;have HOK:=oZ hok;have HRR:=oZ re;obtain ⟨a,c,rfl,h1,h2,-,rh⟩:=ae.open h;have HCELL:=oZ rh;obtain ⟨n,hn⟩:=pL xss.length;obtain ⟨m,hm⟩:=pL (bP xss);rw [<- hn] at HC1 HCO HCH h1 hk1 wI hl HROWS |-;rw [<- hm] at HC2 HCO hk2 wI hcl;obtain ⟨c1,qU⟩:=pL (eH n k);obtain ⟨c2,hc2⟩:=pL (eH m k);rw [<- qU] at HC1 wI;rw [<- hc2] at HC2 wI;have HCC:=oZ (And.intro qU hc2);have HNM:=oZ (And.intro hn hm);unfold maxLen at h2;have q0:¬ (k:Int)<0:=by omega
 have q1:¬ (n:Int)<(k:Int):=by omega
 have q2:¬ (m:Int)<(k:Int):=by omega
 have hcm:((c1*c2:Nat):Int)=(c1:Int)*(c2:Int):=Int.natCast_mul _ _;have q3:IntKind.i64.wrap ((c1:Int)*(c2:Int))=(c1:Int)*(c2:Int):=by rw [<- hcm,IntKind.wrap_i64];omega
 have q4:¬ (1000:Int)<(c1:Int)*(c2:Int):=by rw [<- hcm];omega
 have z0:=pD q0;have z1:=pD q1;have z2:=pD q2;have z4:=pD q4;have z5:decide (n<k)=false:=by rw [decide_eq_false_iff_not];omega
 have z6:decide (m<k)=false:=by rw [decide_eq_false_iff_not];omega
 clear h hE hok ht re rh hn hm qU hc2 hcm;refine (callsIn_wide (n:=9)).1 ?_;refine callsIn_of_wp_marks func101 rfl trivial ?_ rfl;simp only [ntmps101,List.size_toArray,List.length_cons,List.length_nil,Nat.reduceAdd,Nat.reduceSub,Array.replicate_succ,Array.replicate_zero,List.push_toArray,List.append_toArray,List.nil_append,List.cons_append];obtain ⟨W2,qv⟩:=pK ((w.alloc (.cells #[.slice a n c] 32)).alloc (.cells #[.int .i64 (k:Int)] 3));have rP:aA w W2:=by rw [<- qv];exact (aA.alloc _ _).trans (aA.alloc _ _)
 have hs2:W2.heap.size=w.heap.size+2:=by rw [<- qv];simp
 have hb1:Boxed W2 w.heap.size 32 (.slice a n c):=by
  rw [<- qv];exact Boxed.alloc (Boxed.new w _ _) _
 have hb2:Boxed W2 (w.heap.size+1) 3 (.int .i64 (k:Int)):=by
  rw [<- qv];have:=Boxed.new (w.alloc (.cells #[.slice a n c] 32)) 3 (.int .i64 (k:Int));simpa using this
 have HX2:=oZ rP;have HB1:=oZ hb1;have HB2:=oZ hb2;have HS2:=oZ hs2;have d1:=hb1.cell;have d2:=hb2.cell;clear rP hs2 hb1 hb2;refine wpIn_wide.2 ?_;go_wp2_with fail;refine (HCH _ HX2).mono ?_;rintro e w1 ⟨rfl,hE1⟩;have HX1:=oZ (aA.trans HX2 hE1);have e1:=hE1.cell d1;have e2:=hE1.cell d2;have zF:Hid (Boxed w1 w.heap.size 32 (.slice a n c)/\Boxed w1 (w.heap.size+1) 3 (.int .i64 (k:Int))/\w.heap.size+2<=w1.heap.size):=⟨aF HB1 hE1,aF HB2 hE1,by have:=hE1.size;have:=HS2.out;omega⟩;clear hE1 d1 d2 qv HCH;go_wp2_with fail
 go_quiet ((go_at_call 200;exact Calls.quiet_of_same (HCO _ (aA.draws HX1 _))))
 go_wp2_with fail;obtain ⟨wq,EX⟩:=pL (w1.drewN nq);rw [<- EX];have Aq:aA w1 wq:=by rw [EX];exact aA.drewN _ _
 have HXQ:=oZ (aA.trans HX1 Aq);have b1:=Aq.cell e1;have b2:=Aq.cell e2;have yN:Hid (Boxed wq w.heap.size 32 (.slice a n c)/\Boxed wq (w.heap.size+1) 3 (.int .i64 (k:Int))/\w.heap.size+2<=wq.heap.size):=⟨aF zF.1 Aq,aF zF.2.1 Aq,by have:=Aq.size;have:=zF.2.2;omega⟩;clear EX Aq e1 e2 zF HX1 HX2 HB1 HB2 HS2
 go_quiet ((first | (go_at_call 200;exact Calls.quiet_of_same (HCO _ (aA.draws HXQ _))) | (go_at_call 201;with_reducible exact Calls.quiet_of_same (HC1.out _)) | (go_at_call 201;with_reducible exact Calls.quiet_of_same (HC2.out _))))
 obtain ⟨wz,B6⟩:=pL (wq.drewN nq);rw [<- B6];have zn:aA wq wz:=by rw [B6];exact aA.drewN _ _
 obtain ⟨W3,vP⟩:=pK (wz.alloc (.cells #[.slice none 0 0] 48));have pS:aA wz W3:=by rw [<- vP];exact aA.alloc _ _
 have HM3:Hid (fG w W3 w.heap.size (w.heap.size+1) wz.heap.size (.slice a n c) k (eY xss k 0)):=by
  have hs:=zn.size;have hz:=yN.2.2;refine ⟨aF yN.1 (zn.trans pS),aF yN.2.1 (zn.trans pS),⟨_,?_,World.ownsRow_nil _ _ _ _⟩,HXQ.trans (zn.trans pS),by omega,oz _,by omega⟩;rw [<- vP];exact Boxed.new _ _ _
 have b1:=pS.cell (zn.cell b1);have b2:=pS.cell (zn.cell b2);have tQ:Hid (W3.heap.size=wz.heap.size+1/\w.heap.size+2<=wz.heap.size):=⟨by rw [<- vP];simp,by have:=zn.size;have:=yN.2.2;omega⟩;clear B6 zn pS yN HXQ;go_wp2_with fail;refine (Z0b _ _ _).mono ?_;rintro e w4 ⟨rfl,hw4⟩;have xt:aA W3 w4:=by rw [hw4];exact (aA.alloc _ _).trans (aA.alloc _ _)
 have HM4:=oZ (HM3.ext xt);have BH:Hid (Boxed w4 (W3.heap.size+1) 3 (.int .i64 (k:Int))/\Boxed w4 W3.heap.size 3 (.int .i64 (n:Int))/\w4.heap.size=W3.heap.size+2):=by
  rw [hw4];refine ⟨?_,Boxed.alloc (Boxed.new _ _ _) _,by simp⟩;have:=Boxed.new (W3.alloc (.cells #[.int .i64 (n:Int)] 3)) 3 (.int .i64 (k:Int));simpa using this
 clear b1 b2 hw4 xt vP;go_wp2_with fail;refine (wpIn_wide (n:=9)).1 ?_;have HSI:=oZ (oN (n:=n) (k:=k) hl hk1);have HSJ:=oZ (oN (n:=m) (k:=k) hcl hk2);refine E9_ (T:=3) (L:=be n k) (w0:=w4) rfl (by omega) (gf:=273) (lb:=#[.pointer (some ⟨W3.heap.size+1,0,none⟩),.pointer (some ⟨W3.heap.size,0,none⟩)]) rfl trivial (enters_of func273 (by kernel_rfl) rfl)
  (Z0a (9-1) (by omega) n k hk1 hl (be n k) HSI.1 _ _ w4 BH.1 BH.2.1) (Below.refl _ _) rfl
  (fun i W=>fG w W w.heap.size (w.heap.size+1) wz.heap.size (.slice a n c) k (eY xss k i)) ?ab HM4 ?rounds ?done
 case ab =>
  rintro i W W' row hI hg hr;have h3:=tQ.out;have h4:=BH.2.2;refine hI.grown hg (fun e=>?_) (fun e=>?_) (fun e=>?_) (fun r e=>?_);·have:=(hr _ e).1;omega
  ·have:=(hr _ e).1;omega
  ·have:=(hr _ e).1;omega
  ·obtain ⟨h5,o,ho,h6⟩:=hr r e;refine ⟨by omega,fun C fr hc=>?_⟩;rw [hc] at ho;cases ho;rcases h6 with h6 | ⟨C',fr',h6⟩
   ·simp [Obj.isCells] at h6
   ·simp at h6
 case done =>
  intro W hI hD;have qx:eY xss k (be n k).length=f_ xss k:=by rw [HNM.out.1];exact Z36 xss k
  rw [qx] at hI;obtain ⟨vo,qe,hown⟩:=hI.out;have c0:=qe.cell;have HI:=oZ hI;have HD:=oZ hD;have HOWN:=oZ hown;have hw4:w.heap.size<=w4.heap.size:=HM4.old.size;clear hI hD hown qe qx;go_wp2_with fail;refine ⟨by simp,.inl ⟨_,_,rfl,run_takeDeferred HD,?_⟩⟩;refine ⟨_,results_tmp2 rfl _ _ _,vo,rfl,?_,?_⟩;·exact ownsRow_putObj HOWN _ HD rfl
  ·exact Below.trans HI.old ((belowK_b (w:=w) (n₀:=w.heap.size) (oz _) W w4.heap.size _ _ hw4 HD rfl rfl))
 case rounds =>
  rintro i R vs W hR hI hV ⟨r0,wU⟩;have hRk:=HSI.1.len R (og hR);have hRn:=HSI.1.lt R (og hR);obtain ⟨gR,CR,frR,vi,I4,JC⟩:=hV.at_;rw [hRk] at vi;subst vi;have HV:=oZ hV;have HI:=oZ hI;have HR:=oZ hR;have HL0:=oZ wU;have HRK:=oZ hRk;have HRN:=oZ hRn;have HGR:=oZ I4;have HCR:=oZ JC;obtain ⟨W5,vF⟩:=pK (W.alloc (.cells #[.slice none 0 0] 29));have hb5:Boxed W5 W.heap.size 29 (.slice none 0 0):=by rw [<- vF];exact Boxed.new _ _ _
  have HE5:Hid (aA W W5):=by rw [<- vF];exact aA.alloc _ _
  have HB5:=oZ hb5;have c0:=hb5.cell;have f0:=hb5.frozen;have HE6:Hid (aA W (W5.setCell ⟨W.heap.size,0,none⟩ (.slice (some ⟨gR,0,none⟩) k k))):=((HE5.grownS (·=W.heap.size)).store (S:=(·=W.heap.size)) rfl 0 _).belowE (fun b e=>by omega) (oz _);have HB6:Hid (Boxed (W5.setCell ⟨W.heap.size,0,none⟩ (.slice (some ⟨gR,0,none⟩) k k)) W.heap.size 29 (.slice (some ⟨gR,0,none⟩) k k)):=dr hb5 0 _;clear hV hI hR wU hRk hRn I4 JC hb5
  gi_wp2_with fail
  obtain ⟨W6,JJ⟩:=pL (W5.setCell ⟨W.heap.size,0,none⟩ (.slice (some ⟨gR,0,none⟩) k k));rw [<- JJ] at HE6 HB6 |-;have hbx:=HI.box;refine ⟨(c_.ext (n0:=w.heap.size) (Bo:=wz.heap.size) HE6).keepF hbx.2,(c_.ext (n0:=w.heap.size) (Bo:=wz.heap.size) HE6).keepT hbx.1,?_⟩;rintro Wb qR ⟨r1,qm⟩ ⟨r2,pn⟩ Ix;have hlw:=(Array.getElem?_eq_some_iff.1 HL0).1;have Bp:Hid (fG w Wb w.heap.size (w.heap.size+1) wz.heap.size (.slice a n c) k (eY xss k i)):=by
   have h3:=tQ.out;have h4:=BH.2.2;refine (HI.ext HE6).grown qR (fun e=>?_) (fun e=>?_) (fun e=>?_) (fun r e=>?_);·have e:=o5 e;omega
   ·have e:=o5 e;omega
   ·have e:=o5 e;omega
   ·cases e;exact ⟨by omega,fun C fr hc=>by rw [qm] at hc;simp at hc⟩
  have HBB:Hid (Boxed Wb W.heap.size 29 (.slice (some ⟨gR,0,none⟩) k k)):=Y5_ HB6 qR (fun e=>by have e:=o5 e;omega);have G5:Hid (jd 3 Wb (.slice (some ⟨gR,0,none⟩) k k) R):=HV.keep (((c_.ext (n0:=w.heap.size) (Bo:=wz.heap.size) HE6).keepT hbx.1).trans Ix);have HL2:=oZ pn;have g1:=Bp.bm.cell;have g2:=Bp.bk.cell;have HXB:=oZ Bp.old;clear c0 f0 qR Ix qm pn hbx JJ vF HE6 HB6 HB5 HE5
  gi_wp2_with fail
  refine Z8_ (fun u=>u=Wb.drew) 3 (by kernel_rfl) (by kernel_rfl) (by rintro ⟨_,_,h⟩;exact absurd (show Exit.outgrown=Exit.normal from h.1) (by simp)) rfl (fun pO=>?_);refine tL (v:=?_) 0 rfl (Or.inl ⟨by rfl,?_⟩) ?_;rotate_left;·((intro w' qM);(subst qM);(try go_simp);(try with_reducible rfl))
  (try simp only [Act.put,aQ,aR,aS])
  refine tL (v:=?_) 2 rfl (Or.inl ⟨by rfl,?_⟩) ?_;rotate_left;·((intro w' qM);(subst qM);(try go_simp);(try with_reducible rfl))
  (try simp only [Act.put,aQ,aR,aS])
  refine dH 1 (by kernel_rfl) rfl (fun K hK=>?_);go_simp
  (go_at_call 200;refine (HCO _ (aA.trans HXB (aA.drew _))).mono ?_)
  rintro e w5 ⟨rfl,rfl⟩;go_wp2_with fail;refine hK _ _ (rfl) (fun pO=>?_);clear hK K
  (try simp only [Act.put,aQ,aR,aS])
  refine fL 3 (by kernel_rfl) (by kernel_rfl) (by kernel_rfl) rfl (fun K hK=>?_);go_simp
  (go_at_call 202;refine (Z0b _ _ _).mono ?_)
  rintro e w5 ⟨rfl,Ea⟩;have vZ:aA Wb w5:=by rw [Ea];exact (aA.drew _).trans ((aA.alloc _ _).trans (aA.alloc _ _))
  have HK5:Hid (Boxed w5 (Wb.heap.size+1) 3 (.int .i64 (k:Int))/\Boxed w5 Wb.heap.size 3 (.int .i64 (m:Int))/\w5.heap.size=Wb.heap.size+2):=by
   rw [Ea];refine ⟨?_,Boxed.alloc (Boxed.new _ _ _) _,by rw [World.size_alloc,World.size_alloc];rfl⟩;have:=Boxed.new (Wb.drew.alloc (.cells #[.int .i64 (m:Int)] 3)) 3 (.int .i64 (k:Int));rw [World.size_alloc] at this;exact this
  have HX5:=oZ vZ;clear Ea vZ g1 g2 pO;go_wp2_with fail;refine hK _ _ ?_;clear hK K
  gi_wp2_with fail
  have Mk:Hid (fG w w5 w.heap.size (w.heap.size+1) wz.heap.size (.slice a n c) k (eY xss k i++fl xss k R 0)/\c_ w.heap.size wz.heap.size Wb w5):=by
   refine ⟨?_,c_.ext HX5⟩;have e:fl xss k R 0=[]:=rfl;rw [e,List.append_nil];exact Bp.ext HX5
  have hlb:=(Array.getElem?_eq_some_iff.1 HL2).1;refine F8_ (l₀:=w4.heap.size+1) (r₀:=r2) (T:=3) (L:=be m k) (w0:=w5) rfl (aF HL2 HX5) (by omega) (gf:=273) (lb:=#[.pointer (some ⟨Wb.heap.size+1,0,none⟩),.pointer (some ⟨Wb.heap.size,0,none⟩)]) rfl trivial (enters_of func273 (by kernel_rfl) rfl)
   (j_.inRound _ (Z0a _ (by omega) m k hk2 hcl (be m k) HSJ.1 _ _ w5 HK5.1 HK5.2.1)) (Below.refl _ _) rfl
   (fun j W=>fG w W w.heap.size (w.heap.size+1) wz.heap.size (.slice a n c) k (eY xss k i++fl xss k R j)/\c_ w.heap.size wz.heap.size Wb W) ?ab2 Mk ?rounds2 ?done2
  case ab2 =>
   rintro j W' W'' row ⟨hI,hO⟩ hg hr;have h3:=tQ.out;have h4:=BH.2.2;have h5:=HK5.2.2;refine ⟨hI.grown hg (fun e=>?_) (fun e=>?_) (fun e=>?_) (fun r e=>?_),hO.later hg fun r e=>?_⟩;·have:=(hr _ e).1;omega
   ·have:=(hr _ e).1;omega
   ·have:=(hr _ e).1;omega
   ·obtain ⟨h5,o,ho,h6⟩:=hr r e;refine ⟨by omega,fun C fr hc=>?_⟩;rw [hc] at ho;cases ho;rcases h6 with h6 | ⟨C',fr',h6⟩
    ·simp [Obj.isCells] at h6
    ·simp at h6
   ·have:=(hr _ e).1;omega
  case done2 =>
   rintro W' ⟨hI,hO⟩;have hb:=Bp.box;have hE:eY xss k i++fl xss k R (be m k).length=eY xss k (i+1):=by
    rw [HNM.out.2,Z12 (R:=R) (by rw [<- HNM.out.1];exact HR.out)]
   rw [hE] at hI;have HIM:=oZ hI;clear hI
   gi_wp2_with fail
   exact ⟨hO.keepF hb.2,hO.keepT hb.1,HIM⟩
  case rounds2 =>
   rintro j C vc W' hC ⟨hI,hO⟩ GP ⟨r3,CN⟩;have hCk:=HSJ.1.len C (og hC);have hCm:=HSJ.1.lt C (og hC);obtain ⟨gC,CC,frC,vi,-,-⟩:=id GP.at_;rw [hCk] at vi;subst vi;have HVC:=oZ GP;have HIC:=oZ hI;have HOC:=oZ hO;have HC:=oZ hC;have HCK:=oZ hCk;have HCM:=oZ hCm;have HL3:=oZ CN;clear GP hI hO hC hCk hCm CN
   gi_wp2_with fail
   refine ⟨KeepsFrom.refl _ _,ft.refl _ _,?_⟩;rintro Wc Fb ⟨r4,CM⟩ ⟨r5,Ie⟩ BW;have zs:Hid (fG w Wc w.heap.size (w.heap.size+1) wz.heap.size (.slice a n c) k (eY xss k i++fl xss k R j)):=by
    have h3:=tQ.out;have h4:=BH.2.2;have h5:=HK5.2.2;refine HIC.grown Fb (fun e=>?_) (fun e=>?_) (fun e=>?_) (fun r e=>?_);·have e:=o5 e;omega
    ·have e:=o5 e;omega
    ·have e:=o5 e;omega
    ·cases e;exact ⟨by omega,fun C fr hc=>by rw [CM] at hc;simp at hc⟩
   have HOW:Hid (c_ w.heap.size wz.heap.size Wb Wc):=HOC.later Fb (fun r e=>by have e:=o5 e;have:=HK5.2.2;omega);have HSC:=oZ (HVC.keep BW);have HSR:=oZ (G5.keep (HOW.keepT Bp.box.1));have hw3:=tQ.out;have hw4:=BH.2.2;have Mu:Hid (Boxed Wc W.heap.size 29 (.slice (some ⟨gR,0,none⟩) k k)):=(HOW.block _ HBB.lt (.inr ⟨fun e=>by omega,fun C fr e=>by rw [show Wb.heap[W.heap.size]?=_ from HBB.out] at e;simp at e⟩)).trans HBB;have HL5:=oZ Ie;have g1:=zs.bm.cell;have g2:=zs.bk.cell;have g3:=Mu.cell;clear Fb CM Ie BW HIC HOC HVC HL3 hw3 hw4;rw [show (Fence.wide.inRound (w4.heap.size+1)).inRound w5.heap.size=Fence.wide.inRound w5.heap.size from rfl]
   gi_wp2_with fail
   have HXC:=oZ zs.old
   gi_loopw [59,10] (fun t u wx=>∃ (p:Nat) (tags:List (Nat×Nat)),p<=k/\t=.int .i64 p/\Hid (aA Wc wx)/\Hid (bu Z7u 36 wx Wc.heap.size Wc.heap.size u tags (cK xss (R.take p) C))) (fun t _ _=>k-(intOf t).toNat)
   case atStart=>exact ⟨0,[],by omega,rfl,aA.refl _,bu.nil _ _ _ _ _⟩
   case round =>
    obtain ⟨p,tags,NO,rfl,wm,DX⟩:=hrel;obtain ⟨wo,rfl⟩:∃ wo:World,wo=wr:=⟨_,rfl⟩;clear g1 g2 g3;by_cases hlt:p<k
    ·obtain ⟨x,hx⟩:∃ x,R[p]?=some x:=⟨_,oc (by rw [HRK.out];exact hlt)⟩;have Dm:x<n:=HRN x (og hx);have d1:=wm.cell (HSR.cells hx);have HPT:=oZ (Z1a (m:=xss) (C:=C) hx);obtain ⟨b,off,rfl,sG,pP⟩:=HCELL (by intro e;have:=HNM.1;rw [e] at this;simp at this;omega);obtain ⟨xs,hxs⟩:∃ xs,xss[x]?=some xs:=⟨_,oc (by rw [<- HNM.out.1];exact Dm)⟩;obtain ⟨ux,IM,ph⟩:=pP x xs hxs;have hxl:=(HRR xs (og hxs)).1;obtain ⟨ax,cx,rfl,l1,l2,-,lb,lc⟩:=aM.open IM;rw [hxl,<- HNM.out.2] at ph l1;have HCX:=oZ ph;have HLC:=oZ lc;have HLB:=oZ lb;have HXL:=oZ hxl;have HGD:Hid (xss.getD x []=xs):=(by unfold Hid;rw [oe,hxs];rfl);unfold maxLen at l2;clear hx pP IM ph lc lb hxs hxl
     gi_wp2_with fail
     clear d1
     gi_loopw [65,13] (fun t u wx=>∃ q:Nat,q<=k/\t=.int .i64 q/\Hid (aA wo wx)/\Hid (fu wo.heap.size wx u (fo xs C q))) (fun t _ _=>k-(intOf t).toNat)
     case atStart=>exact ⟨0,by omega,rfl,aA.refl _,World.ownsRow_nil _ _ _ _⟩
     case round =>
      obtain ⟨q,Ey,rfl,sx,HQ⟩:=hrel;obtain ⟨wi,rfl⟩:∃ wi:World,wi=wr:=⟨_,rfl⟩;by_cases vn:q<k
      ·obtain ⟨y,hy⟩:∃ y,C[q]?=some y:=⟨_,oc (by rw [HCK.out];exact vn)⟩;have Kb:y<m:=HCM y (og hy);have hyl:y<xs.length:=(by rw [HXL.out,<- HNM.out.2];exact Kb);have d1:=(wm.trans sx).cell (HSC.cells hy);have d2:=(wm.trans sx).cell zs.bm.cell;have d3:=((HXC.trans wm).trans sx).cell HCX;obtain ⟨z,hz⟩:∃ z,xs[y]?=some z:=⟨_,oc hyl⟩;obtain ⟨bx,offx,rfl,hbx,sF⟩:=HLC (by intro e;rw [e] at hyl;simp at hyl);have d4:=((HXC.trans wm).trans sx).cell (sF y z hz);have HSU:Hid ((fo xs C (q+1))=(fo xs C q)++[z]):=Z1b hy hz;have p1:(0:Int)<=(x:Int):=(by omega);have p2:(x:Int)<(n:Int):=(by omega);have p3:(0:Int)<=(y:Int):=(by omega);have p4:(y:Int)<(m:Int):=(by omega);have HSZ:Hid (wo.heap.size<=wi.heap.size):=sx.size;have HLN:Hid ((fo xs C q).length<1000000):=(by unfold Hid;rw [l1_ (by rw [HCK.out];omega)];omega);clear hy hz sF hyl
       gi_wp2_with (gi_at_builtin;go_must (refine Z3_ rfl (by intro c h;cases h) (fun K hK=>?_);refine R4_ wi _ _ 36 underlying36 rfl wo.heap.size u13 (fo xs C q) z #[.int .i64 z] 3 rfl HQ (by rfl) rfl HLN HSZ ?_))
       intro v' w2 xw hb2;rw [<- HSU.out] at xw;have HQ3:=oZ xw;have HX2:Hid (aA wo w2):=Below.trans sx hb2;clear xw hb2 d1 d2 d3 d4;refine hK _ _ ?_;clear hK K
       gi_wp2_with fail
       go_roundw
       case rel=>exact ⟨q+1,by omega,by go_num,HX2,HQ3⟩
       case measure=>simp [intOf];omega
      ·obtain rfl:q=k:=(by omega);have hQ:=HQ.out;have hpl:(fo xs C q).length=q:=l1_ (by rw [HCK.out];exact oz _);obtain ⟨gq,cq,rfl,e1,e2,e3,e4⟩:=eu hQ (by omega);rw [hpl] at hQ e3 |-;have hRI:fK wi gq (fo xs C q):=fK.ofOwn (B:=wo.heap.size) (n:=q) (c:=cq) (by have:=HQ.out;unfold fu at this;rw [hpl] at this;exact this);have HRI:=oZ hRI;have HPL:=oZ hpl;have HO2:=oZ (DX.ext sx);have HV2:Hid (u10.ownBlock≠some gq):=fun e=>by have:=(DX.own.lt _ e).2;omega
       have rF:Hid (gq∉tags.map (·.1)):=fun e=>by have:=(DX.fresh e).2;omega
       have HSZ:Hid (Wc.heap.size<=gq/\Wc.heap.size<=wi.heap.size):=by
        have h1:=wm.size;have h2:=sx.size;exact ⟨by omega,by omega⟩
       have HLN:Hid ((cK xss (R.take p) C).length<1000000):=(by unfold Hid;rw [ll];simp;omega);have Dg:Hid ((fo xs C q).length<=cq/\cq<=9223372036854775807):=⟨by rw [hpl];exact e3,e4⟩;have HPA:=oZ (Z3i HCK HGD);clear hQ hpl hRI e1 e2 e3 e4
       gi_wp2_with (gi_at_builtin;go_must (refine Z3_ rfl (by intro c h;cases h) (fun K hK=>?_);refine U4_ (K:=Z7u) (e:=36) underlying32 v6_ wi _ _ rfl Wc.heap.size Wc.heap.size u10 tags (cK xss (R.take p) C) (gq,cq) (fo xs C q) #[.slice (some ⟨gq,0,none⟩) q cq] 36 rfl HO2 (by rfl) (by rw [ja,HPL.out]) Dg.1 Dg.2 HRI HSZ.1 HV2 rF HLN HSZ.2 ?_))
       intro v' w5 Al hb5 _;rw [HPA.out,<- HPT.out] at Al;have HO5:=oZ Al;have HX5':=oZ (Below.trans (aA.trans wm sx) hb5);clear Al hb5;refine hK _ _ ?_;clear hK K
       gi_wp2_with fail
       go_roundw
       case rel=>exact ⟨p+1,_,by omega,by go_num,HX5',HO5⟩
       case measure=>simp [intOf];omega
    ·obtain rfl:p=k:=(by omega);rw [show R.take p=R from by rw [<- HRK.out,List.take_length]] at DX
     gi_wp2_with fail
     have HXD:=oZ (aA.trans HXC wm);obtain ⟨d,hd⟩:=pL ((aq (dy (cK xss R C)) p).det);have HD0:=oZ hd;have HRI2:Hid (∀ X,aA wo X->aw X u10 (cK xss R C)):=fun X hX=>(DX.ext hX).rows2 (fun r hr x hx=>by have:=Z56 (R:=R) (C:=C) (fun r hr=>(HRR r hr).2.2) r hr x hx;omega);have HROW:Hid (∀ X,aA wo X->Calls prog 204 #[u10,.func (.func 205) #[] #[]] X fun e X'=>∃ u tg,e=.returned u/\bu jW 267 X' X.heap.size X.heap.size u tg (dy (cK xss R C))/\aA X X'):=fun X hX=>by
      have:=t9_ (cK xss R C) u10 205 #[] (fun _=>[]) X (HRI2 X hX) (by rw [ll,HRK.out];omega) (fun r hr=>by rw [m6_ r hr,HCK.out];omega) (fun i r hr=>⟨by
       have h1:=m6_ r (og hr);have h2:=(od.1 hr).1;rw [ll,HRK.out] at h2
       rw [h1,HCK.out];simp;omega,by simp⟩) (enters_of func205 (by kernel_rfl) rfl) (m3_ _ _) (HT.ext (HXD.trans hX))
      rw [e6_] at this;exact this
     have BC:Hid (∀ u tg X Y,bu jW 267 Y X.heap.size X.heap.size u tg (dy (cK xss R C))->aA wo X->aA X Y->Calls prog 203 #[u,.int .i64 (p:Int)] Y fun e Y'=>∃ av nv cv,e=.returned (.tuple #[.slice av nv cv,.agg #[.string (aB d.num),.string (aE d.den)]])/\aA X Y'/\aH (fun b=>b∈tg.map (·.1)\/u.ownBlock=some b) Y Y'):=fun u tg X Y hO hX hY=>by
      have hc:=U3_ (dy (cK xss R C)) p p u tg X Y hO hY (by rw [<- HCK.out];exact P7_ xss R C) (oz _) (by omega) (by rw [K0_,ll,HRK.out];omega) (HOK R (og (by rw [<- HNM.out.1];exact HR)) C (og (by rw [<- HNM.out.2];exact HC))) (HT.ext (HXD.trans hX)) (fun e=>by
       have:=K0_ (cK xss R C);rw [e,ll,HRK.out] at this
       simpa using this.symm)
      refine hc.mono ?_;rintro e Y' ⟨v,rfl,hR⟩;obtain ⟨av,cv,rfl,-,-⟩:=hR.lead.form;exact ⟨av,_,cv,by rw [hd];rfl,hR.ext,hR.keep⟩
     have rn:Hid (∀ u,aA wo u->u.cell? ⟨w.heap.size+1,0,none⟩=some (.int .i64 (p:Int))):=fun u hu=>(wm.trans hu).cell zs.bk.cell;clear hd;refine Z8_ (fun u=>u.cell? ⟨w.heap.size+1,0,none⟩=some (.int .i64 (p:Int))/\Hid (aA wo u)) 9 (by kernel_rfl) (by kernel_rfl) (by rintro ⟨_,_,h⟩;exact absurd (show Exit.outgrown=Exit.normal from h.1) (by simp)) ⟨((wm.trans (aA.drew wo)).cell zs.bk.cell),aA.drew wo⟩ (fun pO=>?_);obtain ⟨wd,B7⟩:=pL wo.drew;rw [<- B7] at pO |-;clear B7;refine rA [0,2] ?_
     iterate 2 ((first|(refine rL (v:=?_) (by rfl) (Or.inl ⟨by rfl,?_⟩) ?_;rotate_left;·((intro w' qM);(try dsimp only at qM);(try go_simp);(try with_reducible rfl)))|(refine rW (v:=?_) (by rfl) (Or.inl ⟨by rfl,?_⟩) ?_;rotate_left;·((intro w');(try go_simp);(try with_reducible rfl))));(try simp only [Act.put,aQ,aR,aS]))
     refine rE ?_;refine c0_ 1 7 (by kernel_rfl) rfl rfl (fun K hK=>?pB) (fun K hK=>?pA)
     case' pB =>
      go_simp
      (go_at_call 204;refine (HROW _ pO.2).mono ?_)
      rintro e Y ⟨u1,KS,rfl,C6,hE1⟩;have HO1:=oZ C6;have HY1:=oZ hE1;have HXR:=oZ pO.2;have hs1:=hE1.size;clear hE1 C6;go_wp2_with fail;refine hK _ _ ⟨rn _ (aA.trans HXR HY1),aA.trans HXR HY1⟩ (fun pO=>?_);clear hK K
      (try simp only [Act.put,aQ,aR,aS])
      refine c0_ 3 7 (by kernel_rfl) rfl rfl (fun K hK=>?pB1) (fun K hK=>?pB2)
     case' pB1 =>
      go_simp
      (go_at_call 203;refine (BC _ _ wd _ (HO1) HXR (HY1)).mono ?_)
      rintro e Z ⟨av,nv,cv,rfl,hE2,zl⟩;have HZ:=oZ hE2;have HG:=oZ zl;have HXZ:=oZ (aA.trans HXR hE2);clear hE2 zl;go_wp2_with fail;refine hK _ _ ⟨rn _ HXZ,HXZ⟩ (fun pO=>?_);clear hK K
      (try simp only [Act.put,aQ,aR,aS])
      refine rA [4,5,6] ?_
      iterate 3 ((refine rW (v:=?_) (by rfl) (Or.inl ⟨by rfl,?_⟩) ?_;rotate_left;·((intro w');(try go_simp);(try with_reducible rfl)));(try simp only [Act.put,aQ,aR,aS]))
      refine rE ?_;refine dH 7 (by kernel_rfl) rfl (fun K hK=>?_);go_simp;obtain ⟨B,hB⟩:=pL Z.heap.size;obtain ⟨X1,pz,pS,hs3,px⟩:=dO Z (.string ⟨#[]⟩) (.string ⟨#[]⟩) 246;rw [pz];rw [<- hB] at px;rw [show (Z).heap.size=B from hB.symm];have HBX:Hid (af B X1):=⟨_,_,px⟩;have HBL:Hid (wo.heap.size<=B):=(by unfold Hid;rw [hB];exact pO.2.size);have H9:Hid (B=Z.heap.size):=hB;have HY3:=oZ pS;have HX3:=oZ (aA.trans pO.2 pS);clear pz pS hs3 px hB;refine hK _ _ ⟨rn _ HX3,HX3⟩ (fun pO=>?_);clear hK K
      (try simp only [Act.put,aQ,aR,aS])
      refine tW (v:=?_) 8 rfl (Or.inl ⟨by rfl,?_⟩) ?_;rotate_left;·((intro w');(try go_simp);(try with_reducible rfl))
      (try simp only [Act.put,aQ,aR,aS])
      have tS:Hid (af B X1):=HBX.out;obtain ⟨x0,x1,s0,s1,f0,f1⟩:=tS.open;have HXF:=oZ pO.2;refine fL 9 (by kernel_rfl) (by kernel_rfl) (by kernel_rfl) rfl (fun K hK=>?_);go_simp;refine hK _ _ ?_;clear hK K s0 s1 f0 f1
      (try simp only [Act.put,aQ,aR,aS])
      obtain ⟨F,hF⟩:=pL ((X1.setCell ⟨B,0,none⟩ (.string (aB d.num))).setCell ⟨B,1,none⟩ (.string (aE d.den)));have Hu:Hid (dD F B d):=(by rw [hF];exact tS.res);have yZ:Hid (aA wo F):=(by rw [hF];exact eB HXF HBL);rw [<- hF];clear hF pO HXF tS
     case' pB2 =>
      go_simp;obtain ⟨B,hB⟩:=pL Y.heap.size;obtain ⟨X1,pz,pS,hs3,px⟩:=dO Y (.string ⟨#[]⟩) (.string ⟨#[]⟩) 246;rw [pz];rw [<- hB] at px;rw [show (Y).heap.size=B from hB.symm];have HBX:Hid (af B X1):=⟨_,_,px⟩;have HBL:Hid (wo.heap.size<=B):=by unfold Hid;rw [hB];exact pO.2.size
      have H9:Hid (B=Y.heap.size):=hB;have HY3:=oZ pS;have HX3:=oZ (aA.trans pO.2 pS);clear pz pS hs3 px hB;refine hK _ _ ⟨rn _ HX3,HX3⟩ (fun pO=>?_);clear hK K
      (try simp only [Act.put,aQ,aR,aS])
      refine dH 3 (by kernel_rfl) rfl (fun K hK=>?_);go_simp
      (go_at_call 203;refine (BC _ _ wd _ (HO1.ext HY3) HXR (HY1.trans HY3)).mono ?_)
      rintro e Z ⟨av,nv,cv,rfl,hE2,zl⟩;have HZ:=oZ hE2;have HG:=oZ zl;have HXZ:=oZ (aA.trans HXR hE2);clear hE2 zl;go_wp2_with fail;refine hK _ _ ⟨rn _ HXZ,HXZ⟩ (fun pO=>?_);clear hK K
      (try simp only [Act.put,aQ,aR,aS])
      refine rA [4,5,6,8] ?_
      iterate 4 ((refine rW (v:=?_) (by rfl) (Or.inl ⟨by rfl,?_⟩) ?_;rotate_left;·((intro w');(try go_simp);(try with_reducible rfl)));(try simp only [Act.put,aQ,aR,aS]))
      refine rE ?_;have tS:Hid (af B Z):=by
       obtain ⟨x,y,hxy⟩:=HBX.out;refine ⟨x,y,(HG.block B (cG hxy) ?_).trans hxy⟩;have hbe:=H9.out;rintro (hb | hb);·have:=(HO1.fresh hb).2;omega
       ·have:=(HO1.own.lt _ hb).2;omega
      obtain ⟨x0,x1,s0,s1,f0,f1⟩:=tS.open;have HXF:=oZ pO.2;refine fL 9 (by kernel_rfl) (by kernel_rfl) (by kernel_rfl) rfl (fun K hK=>?_);go_simp;refine hK _ _ ?_;clear hK K s0 s1 f0 f1
      (try simp only [Act.put,aQ,aR,aS])
      obtain ⟨F,hF⟩:=pL ((Z.setCell ⟨B,0,none⟩ (.string (aB d.num))).setCell ⟨B,1,none⟩ (.string (aE d.den)));have Hu:Hid (dD F B d):=(by rw [hF];exact tS.res);have yZ:Hid (aA wo F):=(by rw [hF];exact eB HXF HBL);rw [<- hF];clear hF pO HXF tS
     case' pA =>
      go_simp;obtain ⟨B,hB⟩:=pL wd.heap.size;obtain ⟨X1,pz,pS,hs3,px⟩:=dO wd (.string ⟨#[]⟩) (.string ⟨#[]⟩) 246;rw [pz];rw [<- hB] at px;rw [show (wd).heap.size=B from hB.symm];have HBX:Hid (af B X1):=⟨_,_,px⟩;have HBL:Hid (wo.heap.size<=B):=by unfold Hid;rw [hB];exact pO.2.size
      have H9:Hid (B=wd.heap.size):=hB;have HY3:=oZ pS;have HX3:=oZ (aA.trans pO.2 pS);clear pz pS hs3 px hB;refine hK _ _ ⟨rn _ HX3,HX3⟩ (fun pO=>?_);clear hK K
      (try simp only [Act.put,aQ,aR,aS])
      refine dH 1 (by kernel_rfl) rfl (fun K hK=>?_);go_simp
      (go_at_call 204;refine (HROW _ pO.2).mono ?_)
      rintro e Y ⟨u1,KS,rfl,C6,hE1⟩;have HO1:=oZ C6;have HY1:=oZ hE1;have HXR:=oZ pO.2;have hs1:=hE1.size;clear hE1 C6;go_wp2_with fail;refine hK _ _ ⟨rn _ (aA.trans HXR HY1),aA.trans HXR HY1⟩ (fun pO=>?_);clear hK K
      (try simp only [Act.put,aQ,aR,aS])
      refine dH 3 (by kernel_rfl) rfl (fun K hK=>?_);go_simp
      (go_at_call 203;refine (BC _ _ X1 _ (HO1) HXR (HY1)).mono ?_)
      rintro e Z ⟨av,nv,cv,rfl,hE2,zl⟩;have HZ:=oZ hE2;have HG:=oZ zl;have HXZ:=oZ (aA.trans HXR hE2);clear hE2 zl;go_wp2_with fail;refine hK _ _ ⟨rn _ HXZ,HXZ⟩ (fun pO=>?_);clear hK K
      (try simp only [Act.put,aQ,aR,aS])
      refine rA [4,5,6,8] ?_
      iterate 4 ((refine rW (v:=?_) (by rfl) (Or.inl ⟨by rfl,?_⟩) ?_;rotate_left;·((intro w');(try go_simp);(try with_reducible rfl)));(try simp only [Act.put,aQ,aR,aS]))
      refine rE ?_;have tS:Hid (af B Z):=af.ext HBX HZ;obtain ⟨x0,x1,s0,s1,f0,f1⟩:=tS.open;have HXF:=oZ pO.2;refine fL 9 (by kernel_rfl) (by kernel_rfl) (by kernel_rfl) rfl (fun K hK=>?_);go_simp;refine hK _ _ ?_;clear hK K s0 s1 f0 f1
      (try simp only [Act.put,aQ,aR,aS])
      obtain ⟨F,hF⟩:=pL ((Z.setCell ⟨B,0,none⟩ (.string (aB d.num))).setCell ⟨B,1,none⟩ (.string (aE d.den)));have Hu:Hid (dD F B d):=(by rw [hF];exact tS.res);have yZ:Hid (aA wo F):=(by rw [hF];exact eB HXF HBL);rw [<- hF];clear hF pO HXF tS
     all_goals
      have HMF:=oZ (zs.ext (wm.trans yZ));obtain ⟨vo,qe,hown⟩:=HMF.out.out;have t0:=qe.cell;have t1:=Hu.cells.1;have HBO:=oZ qe;have HOWN:=oZ hown;have Bn:Hid (w.heap.size≠wz.heap.size/\w.heap.size+1≠wz.heap.size):=(by have:=tQ.2;exact ⟨by omega,by omega⟩);have HLL:Hid ((eY xss p i++fl xss p R j).length<8000000):=Z37 xss p i j R (by rw [<- HNM.out.1];exact HSI.2.2) (by rw [<- HNM.out.2];exact HSJ.2.2);have HNX:Hid (eY xss p i++fl xss p R (j+1)=(eY xss p i++fl xss p R j)++[d.num]):=by
       unfold Hid;rw [g8_ (C:=C) (by rw [<- HNM.out.2];exact HC.out),List.append_assoc];unfold lV;rw [<- HD0.out]
      obtain ⟨L,hL⟩:=pL (eY xss p i++fl xss p R j);rw [<- hL] at HMF HOWN HLL HNX;have Mo:Hid (w.heap.size<=F.heap.size):=HMF.old.size;clear qe hown hL
      gi_wp2_with (gi_at_builtin;go_must (refine Z3_ rfl (by intro c h;cases h) (fun K hK=>?_);refine s8_ F _ _ rfl w.heap.size vo L d.num #[.string (aB d.num)] 92 rfl HOWN (by rfl) rfl HLL Mo ?_))
      intro v' w9 qT pQ;obtain ⟨sC,hold,s0,s1⟩:=HMF.push HBO HOWN d.num qT pQ Bn.1 Bn.2;obtain ⟨gv,cv',tU⟩:=ownsRow_succ qT;subst tU;rw [<- HNX.out] at sC;have HPU:=oZ sC;have HOL:=oZ (((c_.ext (n0:=w.heap.size) (Bo:=wz.heap.size) (wm.trans yZ))).trans hold);have HBW:=oZ zs.box;clear sC hold qT pQ t0 t1;refine hK _ _ ?_;clear hK K
      gi_wp2_with fail
      exact ⟨HOL.keepF HBW.2,HOL.keepT HBW.1,HPU,HOW.trans HOL⟩
end Go.Proofs.YtoonaddcfakamaaGreatDoor
namespace Go.Proofs.YtoonaddcfakamaaGreatDoor
open Go.RowKit Go.Proofs.Tryz
def gX (w:World) (v:Value) (n k:Nat) (X:pN):Prop:=∃ r,v=.agg #[.int .i64 n,.int .i64 k,r]/\aN 1 numC w r X
theorem numC.mono':iE numC:=fun _ _ _ _ _ h=>h
theorem gX.ext {w w':World} {v:Value} {n k:Nat} {X:pN} (h:gX w v n k X) (he:aA w w'):gX w' v n k X:=by
 obtain ⟨r,hv,h1⟩:=h;exact ⟨r,hv,aN.ext numC.mono' h1 he⟩
theorem lZ {w:World} {B:Nat} {x y z:Value} (h:w.heap[B]?=some (.cells #[x,y,z] 50 (0,0))) (a b c:Value):(((w.setCell ⟨B,0,none⟩ a).setCell ⟨B,1,none⟩ b).setCell ⟨B,2,none⟩ c).heap[B]?=some (.cells #[a,b,c] 50 (0,0)):=by
 have:=dr (dr (dr h 0 a) 1 b) 2 c;simpa using this
theorem U9_ (w:World) (B:Nat) (a b c:Value):w.grownBy (((w.setCell ⟨B,0,none⟩ a).setCell ⟨B,1,none⟩ b).setCell ⟨B,2,none⟩ c) (some B) :=
 gO (gO (fT w B 0 a) (fT _ B 1 b)) (fT _ B 2 c)
theorem lW {w W:World} {B:Nat} (hE:aA w W) (hB:w.heap.size<=B) (a b c:Value):aA w (((W.setCell ⟨B,0,none⟩ a).setCell ⟨B,1,none⟩ b).setCell ⟨B,2,none⟩ c) :=
 ((hE.setCell (p:=⟨B,0,none⟩) hB a).setCell (p:=⟨B,1,none⟩) hB b).setCell (p:=⟨B,2,none⟩) hB c
def Z7S (Q:World->Value->Prop) (v:Value) (k:Nat) (W:World):Prop:=Calls prog 101 #[v,.int .i64 (k:Int)] W fun e w'=>∃ r,e=.returned (.tuple #[r,.int .i64 0])/\Q w' r/\aA W w'
theorem A9_ {W W':World} {B base:Nat} {e:TypeId} {size:Nat} {v:Value} {n:Nat} {xs:List Value} (h:W.ownsRow base e size v n xs) (hB:B<base) (hg:W.grownBy W' (some B)):W'.ownsRow base e size v n xs:=by
 obtain ⟨h1,h2⟩:=h;refine ⟨h1,?_⟩;rcases h2 with h2 | ⟨g,cap,cur,hv,hb,hh,r⟩
 ·exact Or.inl h2
 ·exact Or.inr ⟨g,cap,cur,hv,hb,eV hh hg (fun e=>by cases e;omega),r⟩
theorem u8_ {w:World} {base base':Nat} {e:TypeId} {size:Nat} {v:Value} {n:Nat} {xs:List Value} (h:w.ownsRow base' e size v n xs) (hb:base<=base'):w.ownsRow base e size v n xs:=by
 obtain ⟨h1,h2⟩:=h;refine ⟨h1,?_⟩;rcases h2 with h2 | ⟨g,cap,cur,hv,hg,r⟩
 ·exact Or.inl h2
 ·exact Or.inr ⟨g,cap,cur,hv,ow hb hg,r⟩
theorem Z6L (Q:World->Value->Prop) (xss:pM) (n:Nat) (X:pN) (v:Value) (w:World) (h:aw w v xss) (hE:cL xss=0) (hn:n<=12) (hk:xss.length<=n) (hc:∀ r∈xss,r.length=n) (hS:∀ W r,Q W r->∃ a c,r=.slice a X.length c) (hQ:∀ W W' r,Q W r->W.heap[w.heap.size]?=some (.cells #[.int .i64 0,.int .i64 0,.slice none 0 0] 50 (0,0))->W.grownBy W' (some w.heap.size)->Q W' r) (hM:∀ W,aA w W->w.heap.size<W.heap.size->Z7S Q v xss.length W) :
  Calls prog 29 #[v,.int .i64 n] w fun e w'=>∃ r,e=.returned (.tuple #[.agg #[.int .i64 n,.int .i64 xss.length,r],.int .i64 0])/\aA w w'/\Q w' r:=by
 obtain ⟨w1,pt⟩:=pL (w.alloc (.cells #[.int .i64 0,.int .i64 0,.slice none 0 0] 50));have hb:w1.heap[w.heap.size]?=some (.cells #[.int .i64 0,.int .i64 0,.slice none 0 0] 50 (0,0)):=by rw [pt];exact dq w _ _
 have hE1:aA w w1:=by rw [pt];exact aA.alloc _ _
 have HE1:=oZ hE1;have HB:=oZ hb;have HCH:Hid (∀ W,aA w W->pI 100 #[v] W (.int .i64 0)):=fun W hW=>by
  have:=nC xss v W (h.ext hW);rw [hE] at this;exact this
 have HM:=oZ hM;have HSL:=oZ hS;have HQ:=oZ hQ;have HR:=oZ h;obtain ⟨a,cap,rfl,h1,h2,-,rh⟩:=ae.open h;have HCC:=oZ rh;have HCN:=oZ hc;obtain ⟨k,hk2⟩:=pK xss.length;have HKL:=oZ hk2;rw [hk2] at HM HCH h1 hk |-;unfold maxLen at h2;clear hb hE1 h hE hM rh hc hk2 hS hQ;have c1:¬ ((n:Int)<0):=by omega
 have c2:¬ (12<(n:Int)):=by omega
 have c3:¬ ((n:Int)<(k:Int)):=by omega
 by_cases hz:k=0
 ·subst hz
  go_enter func29,ntmps29
  go_wp2_with fail;generalize wC:w.alloc _=w9;obtain rfl:w9=w1:=by rw [<- wC,pt]
  clear pt wC;refine (HCH w9 HE1).mono ?_;rintro e w2 ⟨rfl,h2⟩;have HE2:Hid (aA w w2):=HE1.trans h2;have HB2:=oZ (aF HB h2);clear h2 HCH HB;go_wp2_with fail;refine (HM w2 HE2 (cG HB2)).mono ?_;rintro e w3 ⟨r,rfl,hr,h3⟩;have HE3:Hid (aA w w3):=HE2.trans h3;have HB3:=oZ (aF HB2 h3);obtain ⟨ra,rc,rfl⟩:=HSL _ _ hr;have HX:=oZ hr;clear h3 hr HB2 HM;obtain ⟨m,hm⟩:=pK X.length;rw [hm] at HX;have f0:=cQ HB3;have k0:=ah HB3;go_wp2_with fail;have hb7:=lZ HB3 (.int .i64 (n:Int)) (.int .i64 0) (.slice ra m rc);refine bodyPost_ret (mv (by rfl) _ _ w.heap.size 50 #[.int .i64 n,.int .i64 0,.slice ra m rc] (0,0) _ (.int .i64 0) (by rfl) (by rfl) hb7 underlying50 (by rfl) (by kernel_rfl)) (by rfl) ⟨_,rfl,lW HE3 (oz _) _ _ _,?_⟩;exact HQ _ _ _ HX HB3 (U9_ _ _ _ _ _)
 ·have hx:xss≠[]:=by intro e;rw [e] at HKL;exact hz HKL.symm
  obtain ⟨b,off,rfl,hb,pP⟩:=HCC hx;obtain ⟨y,hy⟩:∃ y,xss[0]?=some y:=⟨_,oc (by have:=HKL.out;omega)⟩;obtain ⟨u,hu,vB⟩:=pP 0 y hy;have hyl:=HCN y (og hy);obtain ⟨ua,uc,rfl,-⟩:=aN.open hu;rw [hyl,Nat.add_zero] at vB;have HCU:=oZ vB;have c4:0<(k:Int):=by omega
  clear pP hu vB hb hyl hy hx
  go_enter func29,ntmps29
  go_wp2_with fail;generalize wC:w.alloc _=w9;obtain rfl:w9=w1:=by rw [<- wC,pt]
  clear pt wC;refine (HCH w9 HE1).mono ?_;rintro e w2 ⟨rfl,h2⟩;have HE2:Hid (aA w w2):=HE1.trans h2;have HB2:=oZ (aF HB h2);have hcu2:=HE2.cell HCU;clear h2 HCH HB;go_wp2_with fail;refine (HM w2 HE2 (cG HB2)).mono ?_;rintro e w3 ⟨r,rfl,hr,h3⟩;have HE3:Hid (aA w w3):=HE2.trans h3;have HB3:=oZ (aF HB2 h3);obtain ⟨ra,rc,rfl⟩:=HSL _ _ hr;have HX:=oZ hr;clear h3 hr HB2 HM hcu2;obtain ⟨m,hm⟩:=pK X.length;rw [hm] at HX;have f0:=cQ HB3;have k0:=ah HB3;go_wp2_with fail;have hb7:=lZ HB3 (.int .i64 (n:Int)) (.int .i64 (k:Int)) (.slice ra m rc);refine bodyPost_ret (mv (by rfl) _ _ w.heap.size 50 #[.int .i64 n,.int .i64 k,.slice ra m rc] (0,0) _ (.int .i64 0) (by rfl) (by rfl) hb7 underlying50 (by rfl) (by kernel_rfl)) (by rfl) ⟨_,rfl,lW HE3 (oz _) _ _ _,?_⟩;exact HQ _ _ _ HX HB3 (U9_ _ _ _ _ _)
theorem Z6M (xss:pM) (n:Nat) (X:pN) (v:Value) (w:World) (h:aw w v xss) (hE:cL xss=0) (hn:n<=12) (hk:xss.length<=n) (hc:∀ r∈xss,r.length=n) (hM:∀ W,aA w W->Z7S (fun W' r=>W'.ownsRow W.heap.size 92 1 r X.length (eZ X)) v xss.length W) :
  Calls prog 29 #[v,.int .i64 n] w fun e w'=>∃ a c,e=.returned (.tuple #[.agg #[.int .i64 n,.int .i64 xss.length,.slice a X.length c],.int .i64 0])/\w'.ownsRow (w.heap.size+1) 92 1 (.slice a X.length c) X.length (eZ X)/\aA w w':=by
 refine (Z6L (fun W r=>W.ownsRow (w.heap.size+1) 92 1 r X.length (eZ X)) xss n X v w h hE hn hk hc (fun W r hr=>?_) (fun W W' r hr _ hg=>A9_ hr (Nat.lt_succ_self _) hg) fun W hW hl=>(hM W hW).mono fun e w' ⟨r,h1,h2,h3⟩=>⟨r,h1,u8_ h2 hl,h3⟩).mono fun e w' ⟨r,h1,h2,h3⟩=>?_
 ·obtain ⟨a,c,rfl,-⟩:=aN.open (numC.of_owns hr);exact ⟨a,c,rfl⟩
 ·obtain ⟨a,c,rfl,-⟩:=aN.open (numC.of_owns h3);exact ⟨a,c,h1,h3,h2⟩
theorem kN (w:World) (x y z:Value):∃ W,(w.alloc (.cells #[x,y,z] 50))=W/\aA w W/\W.heap.size=w.heap.size+1/\W.heap[w.heap.size]?=some (.cells #[x,y,z] 50 (0,0)) :=
 ⟨_,rfl,aA.alloc _ _,by simp,dq _ _ _⟩
theorem v4_ (n k:Nat) (P X:pN) (C M:pM) (vp u:Value) (w:World) (hP:aM w vp P) (hu:gX w u n k X) (hE:eF P=0) (hPl:P.length=n)
  (x4:∀ W,aA w W->Calls prog 58 #[u] W fun e w'=>e=.returned (.int .i64 0)/\aA W w')
  (Jc:∀ W,aA w W->Calls prog 59 #[u] W fun e w'=>∃ v,e=.returned (.tuple #[v,.int .i64 0])/\aA W w'/\aw w' v M)
  (Ji:∀ W vp v,aA w W->aM W vp P->aw W v M->Calls prog 60 #[vp,v] W fun e w'=>∃ u,e=.returned (.tuple #[u,.int .i64 0])/\aZ w' (·<W.heap.size) (fun W=>cP W u P C M)/\aA W w') :
  Calls prog 57 #[vp,u] w fun e w'=>∃ u',e=.returned (.tuple #[u',.int .i64 0])/\cP w' u' P C M/\aA w w':=by
 have HPC:=oZ (fun W (hW:aA w W)=>mu P vp W (hP.ext hW));rw [hE] at HPC;have HCK:=oZ x4;have HLA:=oZ Jc;have HFM:=oZ (fun W v (hW:aA w W) (hv:aw W v M)=>Ji W vp v hW (hP.ext hW) hv);obtain ⟨r,rfl,hr⟩:=hu;obtain ⟨a,c,rfl,-⟩:=aN.open hr;obtain ⟨ap,cp,rfl,-⟩:=hP.open;rw [hPl] at HPC HFM |-;obtain ⟨m,hm⟩:=pK X.length;rw [hm] at HCK HLA |-;obtain ⟨W1,pc,hE1,hs1,hb1⟩:=kN w (.int .i64 n) (.int .i64 k) (.slice a m c);obtain ⟨W2,qv,hE2,hs2,hb2⟩:=gU W1 (.slice none 0 0) (.slice none 0 0) (.slice none 0 0);have HB1:=oZ (aF hb1 hE2);have HB2:=oZ hb2;have HE2:=oZ (hE1.trans hE2);have s1:=ah HB1;obtain ⟨g,hg⟩:=pK W1.heap.size;have HSZ:Hid (w.heap.size<=g/\g<W2.heap.size):=⟨by omega,by omega⟩;clear hP hE hPl x4 Jc Ji hr hE1 hs1 hb1 hE2 hs2 hb2 hm
 go_enter func57,ntmps57
 go_wp2_with fail;rw [hg] at HB2;clear qv hg;refine r_ (HPC _ HE2) ?_;clear HPC;go_wp2_with fail;clear pc;refine (HCK _ HE2).mono ?_;rintro e w4 ⟨rfl,hE⟩;have HE4:=oZ (HE2.trans hE);have HB14:=oZ (aF HB1 hE);have HB24:=oZ (aF HB2 hE);clear hE HCK HE2 HB1 HB2 s1;have s1:=ah HB14;go_wp2_with fail;refine (HLA _ HE4).mono ?_;rintro e w5 ⟨v5,rfl,hE,hR⟩;have HE5:=oZ (HE4.trans hE);have HB25:=oZ (aF HB24 hE);have HR:=oZ hR;obtain ⟨a5,c5,rfl,-⟩:=ae.open hR;clear hE HLA HE4 HB14 HB24 hR s1;go_wp2_with fail;refine (HFM _ _ HE5 HR).mono ?_;rintro e w6 ⟨u6,rfl,hS,hE⟩;have HE6:=oZ (HE5.trans hE);have HB26:=oZ (aF HB25 hE);have HG5:Hid (g<w5.heap.size):=cG HB25;obtain ⟨p6,c6,m6,rfl,qo,r9,rz⟩:=hS.now;obtain ⟨q1,k1,rfl,-⟩:=qo.open;obtain ⟨q2,k2,rfl,-⟩:=ae.open r9;obtain ⟨q3,k3,rfl,-⟩:=ae.open rz;have HS:=oZ hS;clear hE HFM HE5 HB25 HR hS qo r9 rz;obtain ⟨r0,r1,r2,rf⟩:=cU HB26;have f0:=rf 0;have f1:=rf 1;have f2:=rf 2;clear rf;go_wp2_with fail;refine bodyPost_ret (mv (by rfl) _ _ g 34 #[.slice q1 P.length k1,.slice q2 C.length k2,.slice q3 M.length k3] (0,0) _ (.int .i64 0) (by rfl) (by rfl) (j6 HB26 _ _ _) underlying34 (by rfl) (by kernel_rfl)) (by rfl) ⟨_,rfl,?_,jn HE6 HSZ.1 _ _ _⟩;have hG:aH (·<w5.heap.size) w6 (((w6.setCell ⟨g,0,none⟩ (.slice q1 P.length k1)).setCell ⟨g,1,none⟩ (.slice q2 C.length k2)).setCell ⟨g,2,none⟩ (.slice q3 M.length k3)) :=
  (((aH.refl _ w6).setCell (g:=g) HG5 0 _).setCell (g:=g) HG5 1 _).setCell (g:=g) HG5 2 _
 exact HS _ hG
section
variable {P:Program} {ops O:Array Oper} {Q:Exit->Act->World->Prop} {md:Region.Mode} {S:World->Prop} {z:Nat}
end
section
variable {P:Program} {ops O:Array Oper} {Q:Exit->Act->World->Prop} {md:Region.Mode} {S:World->Prop} {z:Nat}
end
section
variable {P:Program} {ops O:Array Oper} {Q:Exit->Act->World->Prop} {md:Region.Mode} {S:World->Prop} {z:Nat}
def Z7i (C:Array Value) (T:TypeId) (w0 u:World) (v:Value):Prop:=∃ g,v=.pointer (some ⟨g,0,none⟩)/\w0.heap.size<=g/\u.heap[g]?=some (.cells C T (0,0))
end
theorem lR (w:World) (S:Nat->Prop) (hS:∀ b,S b->b<w.heap.size) (xs:pN) (hb:∀ x∈xs,-9223372036854775808<=x/\x<=9223372036854775807) (hl:xs.length<=100) (C:Array Value) (hC:C=(xs.map (Value.int .i64)).toArray) (m:Nat) (hm:m=xs.length) :
  ∃ W,w.alloc (.cells C 3)=W/\aA w W/\w.heap.size<W.heap.size/\aZ W S fun W=>aM W (.slice (some ⟨w.heap.size,0,none⟩) m m) xs:=by
 subst hC;subst hm;exact ⟨_,rfl,aA.alloc _ _,by simp,aZ.intsLit hS rfl xs _ _ rfl (by unfold maxLen;omega) hb _ rfl⟩
theorem G8_ (w:World) (S:Nat->Prop) (hS:∀ b,S b->b<w.heap.size) (u:Value) (x:pN) (hu:aZ w S fun W=>aM W u x) :
  ∃ W,w.alloc (.cells #[u] 36)=W/\aA w W/\w.heap.size<W.heap.size/\aZ W S fun W=>aw W (.slice (some ⟨w.heap.size,0,none⟩) 1 1) [x] :=
 ⟨_,rfl,aA.alloc _ _,by simp,aZ.lit hS rfl [u] [x] _ 1 rfl rfl (by simp [maxLen]) _ rfl (fun j a y ha hy=>by
  match j with
  | 0=>simp at ha hy;subst ha;subst hy;exact hu
  | j+1=>simp at ha)⟩
theorem Z3C (w:World) (S:Nat->Prop) (hS:∀ b,S b->b<w.heap.size) (u v:Value) (x y:pN) (hu:aZ w S fun W=>aM W u x) (hv:aZ w S fun W=>aM W v y) :
  ∃ W,w.alloc (.cells #[u,v] 36)=W/\aA w W/\w.heap.size<W.heap.size/\aZ W S fun W=>aw W (.slice (some ⟨w.heap.size,0,none⟩) 2 2) [x,y] :=
 ⟨_,rfl,aA.alloc _ _,by simp,aZ.lit hS rfl [u,v] [x,y] _ 2 rfl rfl (by simp [maxLen]) _ rfl (fun j a z ha hz=>by
  match j with
  | 0=>simp at ha hz;subst ha;subst hz;exact hu
  | 1=>simp at ha hz;subst ha;subst hz;exact hv
  | j+2=>simp at ha)⟩
abbrev mP:List Int:=[2,3,5]
abbrev mC:pM:=[[4,-4,1]]
abbrev mM:pM:=[[1,0,-4],[0,1,4]]
theorem Z7V:∀ x∈mC,aT 1000000000 x/\x.length=3:=by unfold aT;decide +kernel
theorem Z7W:∀ x∈mM,aT 1000000000 x/\x.length=3:=by unfold aT;decide +kernel
theorem Z86:∀ x∈([[8,-8,2]]:pM),aT 1000000000 x/\x.length=3:=by unfold aT;decide +kernel
theorem mD3:fF 3 20 [[-8,8,-2]] [[8,-8,2]] mM mC:=⟨by decide,by decide,by decide +kernel,by decide +kernel,⟨by decide,Z86⟩,by decide +kernel,by decide +kernel,by decide +kernel,by decide,by decide,Z7W,Z7V⟩
theorem mPr:eF mP=0:=by decide +kernel
theorem mR:jB 3 20 mP mC mM:=⟨by decide,by decide,mPr,rfl,by decide +kernel,by decide +kernel,by decide +kernel,by decide,by decide,Z7V,Z7W⟩
theorem Z0L (c:Int) (vals:Bool) (xss:pM) (v:Value) (w:World) (h:j8 w v xss) :
  pI 15 #[.agg #[.int .u8 c,v,.bool vals]] w (.bool (decide (xss.length<=3))):=by
 obtain ⟨a,cp,rfl,qX,tT,-⟩:=aN.open h;clear h;obtain ⟨n,hn⟩:=pK xss.length;rw [hn] at qX |-;unfold maxLen at tT;clear hn
 go_enter func15,ntmps15
 obtain ⟨W1,pc⟩:=pK (w.alloc (.cells #[.int .u8 c,.slice a n cp,.bool vals] 24));have sJ:W1.heap[w.heap.size]?=some (.cells #[.int .u8 c,.slice a n cp,.bool vals] 24 (0,0)):=by rw [<- pc];exact dq _ _ _
 have HE1:Hid (aA w W1):=by unfold Hid;rw [<- pc];exact aA.alloc _ _
 have p1:=ah sJ 1;simp only [pC,o_,o9] at p1;clear sJ;by_cases h3:n<=3
 ·have MT:(n:Int)<=3:=by omega
  go_wp2_with fail;go_ret;exact ⟨by simp [h3],HE1⟩
 ·have MT:¬ (n:Int)<=3:=by omega
  go_wp2_with fail;go_ret;exact ⟨by simp [h3],HE1⟩
abbrev Z82:Array Value:=#[.slice none 0 0,.slice none 0 0,.slice none 0 0]
theorem F4_ {w:World} {p c m:Value} {P:pN} {C M:pM} (h:cP w (.agg #[p,c,m]) P C M):aM w p P/\aw w c C/\aw w m M:=by
 obtain ⟨q0,q1,q2,If,tl,vL,yR⟩:=h;simp only [Value.agg.injEq,Array.mk.injEq,List.cons.injEq,and_true] at If;obtain ⟨rfl,rfl,rfl⟩:=If;exact ⟨tl,vL,yR⟩
def nM (w0:World) (P:pN) (C M C' M':pM):Nat->World->Value->Prop
 | 0,u,v=>cP u v P C M
 | 1,u,v=>cP u v P C' M'
 | _,u,v=>Z7i Z82 34 w0 u v
theorem Z4f {C:Array Value} {T:TypeId} {w0 u u':World} {v:Value} (h:Z7i C T w0 u v) (he:aA u u'):Z7i C T w0 u' v:=by
 obtain ⟨g,h1,h2,h3⟩:=h;exact ⟨g,h1,h2,aF h3 he⟩
theorem nM.ext {w0:World} {P:pN} {C M C' M':pM}:∀ (j:Nat) (u u':World) (v:Value),nM w0 P C M C' M' j u v->aA u u'->nM w0 P C M C' M' j u' v
 | 0,_,_,_,h,he=>cP.ext h he
 | 1,_,_,_,h,he=>cP.ext h he
 | _+2,_,_,_,h,he=>Z4f h he
theorem nM.box {w0:World} {P:pN} {C M C' M':pM} (j:Nat) (u:World) (v:Value) (hj:decide (2<=j)=true) (h:nM w0 P C M C' M' j u v):∃ g,v=.pointer (some ⟨g,0,none⟩)/\g<u.heap.size:=by
 obtain ⟨j,rfl⟩:∃ i,j=i+2:=⟨j-2,by have:=of_decide_eq_true hj;omega⟩;obtain ⟨g,h1,h2,h3⟩:Z7i _ _ _ _ _:=h;exact ⟨g,h1,cG h3⟩
theorem Q6_ (n:Int) (w:World) (h1:-1000000000<=n) (h2:n<=1000000000) (pT:b9 w) :
  pI 95 #[.string (aB n)] w (.tuple #[.int .i64 n,.int .i64 0]):=by
 have rJ:fh n:=⟨by omega,by omega⟩;have hn9:n.natAbs<=1000000000:=by omega
 have hsz:(aB n).size<=2000000000:=ow (Q4_ (n:=n) (k:=10) (Nat.lt_of_le_of_lt hn9 (by decide)) (by decide) (by decide)) (by decide);have HS:=oZ (P9_ n w hsz pT);rw [show gH n=n by unfold gH;rw [if_pos rJ],pE rJ] at HS;have k1:¬ (1000000000<n):=by omega
 have k2:¬ (n < -1000000000):=by omega
 clear pT rJ hsz hn9 h1 h2
 go_enter func95,ntmps95
 go_wp2_with fail;refine HS.mono ?_;rintro e w1 ⟨rfl,hE1⟩;go_wp2_with fail;go_ret2;exact ⟨rfl,hE1⟩
theorem h8_ (n:Int) (w:World) (h1:-1000000000<=n) (h2:n<=1000000000) (pT:b9 w) :
  pI 94 #[.string (aB n)] w (.bool false):=by
 have HS:=oZ (Q6_ n w h1 h2 pT);clear pT h1 h2
 go_enter func94,ntmps94
 go_wp2_with fail;refine HS.mono ?_;rintro e w1 ⟨rfl,hE1⟩;go_wp2_with fail;go_ret;exact ⟨rfl,hE1⟩
theorem l9_ (xs:pN) (v:Value) (w:World) (h:aN 1 (ae Z7q) w v xs) (hb:∀ x∈xs,x.natAbs<=1000000000) (pT:b9 w) :
  pI 92 #[v,.func (.func 94) #[] #[]] w (.bool false):=by
 have:=J7_ (R:=Z7q) (fun _ _ _ _ _ h=>h) xs v 94 #[] (fun _=>false) w h (enters_of func94 (by kernel_rfl) rfl) fun W x a hx hW ha=>by
  rw [show a=.string (aB x) from ha];have:=hb x hx;exact h8_ x W (by omega) (by omega) (pT.ext hW)
 rw [show (xs.any fun _=>false)=false by simp] at this;exact this
end Go.Proofs.YtoonaddcfakamaaGreatDoor
