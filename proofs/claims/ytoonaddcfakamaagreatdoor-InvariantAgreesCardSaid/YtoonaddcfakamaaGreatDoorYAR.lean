import Derived.Test.YtoonaddcfakamaaGreatDoorYAQ
import Derived.Test.YtoonaddcfakamaaGreatDoorYAG
import Derived.Test.YtoonaddcfakamaaGreatDoorYAI
import Derived.Test.YtoonaddcfakamaaGreatDoorYAN
import Derived.Test.YtoonaddcfakamaaGreatDoorYAA
import Derived.Sort.QuietIn
import Derived.Test.YtoonaddcfakamaaGreatDoorYAP
import Derived.Deep.CutRange
import Derived.Deep.RegionHeld3
import Derived.Test.YtoonaddcfakamaaGreatDoorYAL
set_option linter.unusedVariables false
set_option linter.unusedSimpArgs false
set_option maxRecDepth 1000000
set_option maxHeartbeats 4000000
namespace Go.Proofs.YtoonaddcfakamaaGreatDoor
open Go.RowKit Go.Proofs.Tryz
def bJ (xss:oP):Nat:=(xss.headD []).length
theorem n7_ (n:Nat):∀ xss,iN n xss=0->∀ r∈xss,r.length=n/\r.length<=12/\∀ x∈r,-1000000000<=x/\x<=1000000000
 | [],_,r,hr=>by simp at hr
 | q::l,h,r,hr=>by
  unfold iN at h
  split at h
  ·cases h
  ·split at h
   ·split at h
    ·cases h
    ·rename_i h1 h2 h3;rcases List.mem_cons.1 hr with rfl | hr
     ·refine ⟨h2,by omega,fun x hx=>?_⟩;rw [<- nA];simp only [List.any_eq_true,Bool.not_eq_true',not_exists,not_and,Bool.not_eq_false] at h3;exact h3 x hx
     ·exact n7_ n l h r hr
   ·cases h
theorem j8 {xss:oP} (h:cM xss=0):xss.length<=12/\∀ r∈xss,r.length=bJ xss/\r.length<=12/\∀ x∈r,-1000000000<=x/\x<=1000000000:=by
 unfold cM at h
 split at h
 ·cases h
 ·exact ⟨by omega,n7_ _ xss h⟩
theorem i0_ (xss:oP):ft xss (fun _=>[]) xss.length=df xss:=by
 unfold ft df;apply List.ext_getElem;·simp
 ·intro i h1 h2;simp only [List.length_map,List.length_range] at h1;simp [h1]
theorem Y8_ (xss:oP) (v:Value) (w:World) (h:aV w v xss) :
  oM 200 #[v] w (.int .i64 (bJ xss:Int)):=by
 obtain ⟨a,c,rfl,h1,h2,-,hc⟩:=aP.open h;clear h;unfold maxLen at h2;cases xss with
 | nil =>
  clear hc
  go_enter func200,ntmps200
  go_wp2
  go_ret;exact ⟨rfl,rfl⟩
 | cons r l =>
  obtain ⟨b,off,rfl,hb,hcell⟩:=hc (by simp);obtain ⟨vx,pV,o7⟩:=hcell 0 r rfl;obtain ⟨ax,cx,rfl,-,-,-,-,-⟩:=aK.open pV;rw [Nat.add_zero] at o7;obtain ⟨m,hm⟩:=oO ((r::l).length);have hq:((m:Int) == 0)=false:=by rw [beq_eq_false_iff_ne,hm,List.length_cons];omega
  have hpos:(0:Int)<(m:Int):=by rw [hm,List.length_cons];omega
  have HCN:Hid (bJ (r::l)=r.length):=rfl;rw [<- hm] at h1 |-;clear hc hcell pV hm
  go_enter func200,ntmps200
  go_wp2
  go_ret;rw [HCN.out];exact ⟨rfl,rfl⟩
theorem H5_ (v:Value) (w:World) (hv:∃ a n c,v=.slice a n c) :
  oL 203 #[v,.int .i64 0] w (.tuple #[.slice none 0 0,bN 1]):=by
 obtain ⟨a,n,c,rfl⟩:=hv;obtain ⟨W1,oZ,hE1,hs1,hb1⟩:=dF w (.string ⟨#[]⟩) (.string ⟨#[]⟩) 246;have HE1:=np hE1;have HB1:Hid (∀ W,aA W1 W->aU w.heap.size W):=fun W hW=>aU.ext ⟨_,_,hb1⟩ hW;obtain ⟨r0,r1,rf⟩:=cw hb1;clear hE1 hb1 rf
 go_enter func203,ntmps203
 go_wp2_with fail;refine (d9_ _).mono ?_;rintro e w2 ⟨rfl,hE2⟩;have HE2:=np hE2;obtain ⟨q0,q1,t0,t1,f0,f1⟩:=(HB1 _ hE2).open;have hbx:=(HB1 _ hE2);rw [L3_];have HBQ:Hid (ck ((w2.setCell ⟨w.heap.size,0,none⟩ (.string ⟨#[49]⟩)).setCell ⟨w.heap.size,1,none⟩ (.string ⟨#[49]⟩)) w.heap.size 1):=by
  have:=hbx.res (x:=.string ⟨#[49]⟩) (y:=.string ⟨#[49]⟩);unfold Hid ck;rw [this];show some (Obj.cells #[.string ⟨#[49]⟩,.string ⟨#[49]⟩] 246 (0,0))=some (Obj.cells #[.string (aB 1),.string (aE 1)] 246 (0,0));rw [nF,iF]
 have HX:Hid (aA w ((w2.setCell ⟨w.heap.size,0,none⟩ (.string ⟨#[49]⟩)).setCell ⟨w.heap.size,1,none⟩ (.string ⟨#[49]⟩))):=dq (HE1.trans hE2) (n9 _);clear hE2 hbx r0 r1;go_wp2_with fail;clear q0 q1 t0 t1 f0 f1;refine wp_loop_once ?_;obtain ⟨W3,rO⟩:=oO (((w2.setCell ⟨w.heap.size,0,none⟩ (.string ⟨#[49]⟩)).setCell ⟨w.heap.size,1,none⟩ (.string ⟨#[49]⟩)));rw [<- rO] at HBQ HX |-;clear rO;obtain ⟨b0,b1,b2,b3⟩:=HBQ.cells;rw [show (1:Rat).num=1 from rfl,nF] at b0;rw [show (1:Rat).den=1 from rfl,iF] at b1;have HSET:=np ((HBQ.ext (aA.drew W3)).set 1);have HX2:Hid (aA w ((W3.drew.setCell ⟨w.heap.size,0,none⟩ (.string ⟨#[49]⟩)).setCell ⟨w.heap.size,1,none⟩ (.string ⟨#[49]⟩))):=dq (HX.trans (aA.drew _)) (n9 _);rw [show (1:Rat).num=1 from rfl,show (1:Rat).den=1 from rfl,nF,iF] at HSET;go_wp2_with fail
 go_region
 all_goals
  go_wp2_with fail;refine bodyPost_ret (X8_ (by rfl) _ _ w.heap.size 246 #[.string (aB 1),.string (aE 1)] (0,0) _ (.slice none 0 0) (by rfl) (by rfl) HSET underlying246 (by rfl) (by kernel_rfl)) (by rfl) ⟨rfl,HX2⟩
theorem bp.toMat {e:TypeId} {w:World} {ob base:Nat} {u:Value} {tags:List (Nat×Nat)} {m:List (List Rat)} (h:bp iq e w ob base u tags m) (yp:base<=ob) (hpos:0<m.length) :
  ∃ g cap,u=.slice (some ⟨g,0,none⟩) m.length cap/\cT w g tags m/\m.length<=cap/\cap<=9223372036854775807/\∀ b,cV g tags b->base<=b:=by
 obtain ⟨g,cap,rfl,-⟩:=ei h.own hpos;obtain ⟨h1,h2,h3,h4⟩:=h.matQ yp;exact ⟨g,cap,rfl,h1,h2,h3,h4⟩
theorem bp.form {α:Type} {K:gV α} {e:TypeId} {w:World} {ob base:Nat} {u:Value} {tags:List (Nat×Nat)} {m:List (List α)} (h:bp K e w ob base u tags m):∃ a n c,u=.slice a n c:=by
 rcases h.own.2 with ⟨rfl,hn⟩ | ⟨g,cap,cur,rfl,hb,hg,h1,h2,h3,h4⟩
 ·exact ⟨_,_,_,rfl⟩
 ·exact ⟨_,_,_,rfl⟩
structure Z5o (wb w1 w':World) (u v:Value) (oW:List (Nat×Nat)) (m:List (List Rat)) (n:Nat):Prop where
 lead:dI w1.heap.size w' v (ah m n).lead
 ext:aA wb w'
 low:wb.heap.size<=w1.heap.size
 keep:aH (fun b=>b∈oW.map (·.1)\/u.ownBlock=some b) w1 w'
 mat:m≠[]->∃ g tags cap,u=.slice (some ⟨g,0,none⟩) m.length cap/\cT w' g tags (ah m n).m/\m.length<=cap/\cap<=9223372036854775807/\∀ b,cV g tags b->wb.heap.size<=b
theorem U5_ (m:List (List Rat)) (n C:Nat) (u:Value) (tags:List (Nat×Nat)) (wb w1:World) (hO:bp iq 267 w1 wb.heap.size wb.heap.size u tags m) (xK:aA wb w1) (hC:bw C m) (hn:n<=C) (DF:C<=1000) (hl:m.length<=1000)
  (og:∀ c,c<n->fi 2500 (ah m c).m/\RS 9000 (ah m c).det) (ht:aZ wb) (hz:m=[]->n=0) :
  Calls prog 203 #[u,.int .i64 (n:Int)] w1 fun e w'=>∃ v,e=.returned (.tuple #[v,bN (ah m n).det])/\Z5o wb w1 w' u v tags m n:=by
 by_cases hm:m=[]
 ·obtain rfl:=hz hm;refine (H5_ u w1 hO.form).mono ?_;rintro e w' ⟨rfl,hE⟩;exact ⟨_,rfl,dI.nil _ _,xK.trans hE,xK.size,hE.grownS _,fun h=>absurd hm h⟩
 ·obtain ⟨g,cap,rfl,h1,h2,h3,h4⟩:=hO.toMat (n9 _) (List.length_pos_iff.2 hm);refine (Z0i m g cap n C tags wb w1 h1 hC hn DF hl h2 h3 og xK ht h4).mono ?_;rintro e w' ⟨v,tags',rfl,k1,k2,k3,k4⟩
  exact ⟨v,rfl,k1,Below.trans xK (k4.belowE (B:=wb.heap.size) h4 xK.size),xK.size,k4.weak (fun b _ hb=>by
   rcases List.mem_cons.1 hb with rfl | hb;·exact .inr rfl
   ·exact .inl hb),fun _=>⟨g,tags',cap,rfl,k2,h2,h3,fun b hb=>h4 b ((k3 b).1 hb)⟩⟩
end Go.Proofs.YtoonaddcfakamaaGreatDoor
namespace Go.Proofs.YtoonaddcfakamaaGreatDoor
open Go.RowKit Go.Shelf Go.Proofs.Tryz
attribute [local go_sem] Oper.semAt_some
theorem R4_ {F:Fence} {n:Nat} {P:Program} (w:World) {ops:Array Oper} {rest:List Oper} {o:Oper} {a:Act} {Q:Exit->Act->World->Prop}
  (hg:o.guard=none) (l c:Operand) (t:TypeId) (EH:o.op=Op.makeSlice t l c)
  (base:Nat) (e:TypeId) (i:TypeInfo) (z:Value) (size:Nat) (h1:P.underlying t=some (.slice e)) (h2:P.info? e=some i) (h3:i.zero=some z) (h4:i.size=size)
  (kl kc:IntKind) (L C:Int) (m:Nat) (hl:a.eval l=.int kl L) (hc:a.eval c=.int kc C) (hL:L=(m:Int)) (hC:C=(m:Int)) (b2:i.bytes*m<=281474976710656) (b3:m<=maxLen) (b4:base<=w.heap.size)
  (hK:∀ w',w'.ownsRow base e size (.slice (some ⟨w.heap.size,0,none⟩) m m) m (madeCells z.cells (m*size)).toList->w.grownBy w' none->wpListIn F n P ops Q rest (a.put o.dst (.slice (some ⟨w.heap.size,0,none⟩) m m)) w') :
  wpListIn F n P ops Q (o::rest) a w:=by
 refine wpListIn_plain hg fun K Kz=>?_;obtain ⟨w',D5,r1,r2⟩:=run_make_full (P:=P) w base t e i z size h1 h2 h3 h4 kl kc m b2 b3 b4;subst hL;subst hC;unfold Oper.wpIn;refine ⟨?_,?_⟩;·simp [Oper.about,EH]
 ·rw [Oper.semAt_plain F _ _ (by rw [EH];intro c rM;cases rM)];simp [execOp,EH,hl,hc,D5,Result.andThen];exact Kz _ _ (hK w' r1 r2)
def lp (l:List Nat):List Value:=l.map fun x:Nat=>Value.int .i64 (x:Int)
structure cl (J:Nat->World->Prop) (i:Nat) (B g k N B1 B2:Nat) (wr:World) (cur:List Nat):Prop where
 j:J i wr
 own:wr.ownsRow B 3 1 (.slice (some ⟨g,0,none⟩) k k) k (lp cur)
 b1:Boxed wr B1 3 (.int .i64 (k:Int))
 b2:Boxed wr B2 3 (.int .i64 (N:Int))
 lt1:B1<B
 lt2:B2<B
theorem cl.len {J:Nat->World->Prop} {i B g k N B1 B2:Nat} {wr:World} {cur:List Nat} (h:cl J i B g k N B1 B2 wr cur):cur.length=k:=by
 have:=h.own.1;unfold lp at this;rw [List.length_map] at this;omega
theorem cl.block {J:Nat->World->Prop} {i B g k N B1 B2:Nat} {wr:World} {cur:List Nat} (h:cl J i B g k N B1 B2 wr cur):∃ C,wr.heap[g]?=some (.cells C 3 (0,0))/\B<=g:=by
 rcases h.own.2 with ⟨hv,_⟩ | ⟨g',cap,C,hv,hb,hg,_⟩
 ·simp at hv
 ·simp only [Value.slice.injEq,Option.some.injEq,Addr.mk.injEq] at hv;obtain ⟨⟨rfl,-,-⟩,-,-⟩:=hv;exact ⟨C,hg,hb⟩
theorem cl.cell {J:Nat->World->Prop} {i B g k N B1 B2:Nat} {wr:World} {cur:List Nat} (h:cl J i B g k N B1 B2 wr cur) {j x:Nat} (hx:cur[j]?=some x):wr.cell? ⟨g,j,none⟩=some (.int .i64 (x:Int))/\wr.frozen? ⟨g,j,none⟩=false:=by
 have hj:=(nt.1 hx).1;have hl:=h.len;exact ⟨(h.own.cellAt j (by omega)).trans (by simp [lp,hx]),h.own.frozenAt j⟩
theorem cl.set {J:Nat->World->Prop} {i B g k N B1 B2:Nat} {wr:World} {cur:List Nat} (h:cl J i B g k N B1 B2 wr cur) (hJ:AbC B 3 J) (j x:Nat):cl J i B g k N B1 B2 (wr.setCell ⟨g,j,none⟩ (.int .i64 (x:Int))) (cur.set j x):=by
 obtain ⟨C,hC,hB⟩:=h.block;have hg:=eL wr g j (.int .i64 (x:Int));have h1:=h.lt1;have h2:=h.lt2;refine ⟨hJ i wr _ _ h.j hg (fun r e=>by cases e;exact ⟨hB,C,_,hC⟩),?_,h.b1.kept hg (fun e=>by simp at e;omega),h.b2.kept hg (fun e=>by simp at e;omega),h.lt1,h.lt2⟩;unfold lp;rw [List.map_set];exact (h.own.stored j _).1
theorem cl.setAt {J:Nat->World->Prop} {i B g k N B1 B2:Nat} {wr:World} {cur:List Nat} (h:cl J i B g k N B1 B2 wr cur):jB 3 wr (.slice (some ⟨g,0,none⟩) k k) cur:=by
 obtain ⟨C,hC,hB⟩:=h.block;have hl:=h.len;exact ⟨g,C,(0,0),by rw [hl],hC,fun j x hx=>(h.cell hx).1⟩
theorem cl.round {J:Nat->World->Prop} {i B g k N B1 B2:Nat} {wr w':World} {cur:List Nat} (h:cl J i B g k N B1 B2 wr cur) (hj:J (i+1) w') (hk:fU 3 wr w'):cl J (i+1) B g k N B1 B2 w' cur:=by
 refine ⟨hj,⟨h.own.1,?_⟩,hk.same _ _ _ h.b1,hk.same _ _ _ h.b2,h.lt1,h.lt2⟩;rcases h.own.2 with h' | ⟨g',cap,C,hv,hb,hg,rest⟩
 ·exact .inl h'
 ·exact .inr ⟨g',cap,C,hv,hb,hk.same _ _ _ hg,rest⟩
theorem cl.drawn {J:Nat->World->Prop} {i B g k N B1 B2:Nat} {wr:World} {cur:List Nat} (h:cl J i B g k N B1 B2 wr cur) (hJ:AbC B 3 J) (n:Nat):cl J i B g k N B1 B2 (wr.drewN n) cur:=by
 have hg:wr.grownBy (wr.drewN n) none:=(aA.drewN wr n).grown none;exact ⟨hJ i wr _ none h.j hg (fun r e=>by cases e),h.own.kept hg (by simp [Value.ownBlock]),h.b1.kept hg (by simp),h.b2.kept hg (by simp),h.lt1,h.lt2⟩
def Z60 (w:World) (g k:Nat):Nat:=iZ ((List.range k).map fun j=>match w.cell? ⟨g,j,none⟩ with | some (.int _ x)=>x.toNat | _=>0)
theorem cl.enc {J:Nat->World->Prop} {i B g k N B1 B2:Nat} {wr:World} {cur:List Nat} (h:cl J i B g k N B1 B2 wr cur):Z60 wr g k=iZ cur:=by
 unfold Z60;congr 1;have hl:=h.len;apply List.ext_getElem;·simp [hl]
 ·intro j h1 h2;rw [List.getElem_map,List.getElem_range,(h.cell (ns h2)).1];simp
def iD (k i:Nat):List Nat:=List.range i++List.replicate (k-i) 0
theorem Z1t {k i:Nat} (h:i<k):(iD k i).set i i=iD k (i+1):=by
 unfold iD;rw [List.set_append_right i i (by simp),List.length_range,show i-i=0 by omega,show k-i=(k-(i+1))+1 by omega,List.replicate_succ,List.set_cons_zero,List.range_succ,List.append_assoc];rfl
theorem Z1s {k i:Nat} (h:i<k):(iD k i)[i]?=some 0:=by
 unfold iD;rw [oC (by simp),List.length_range,show i-i=0 by omega,show k-i=(k-(i+1))+1 by omega,List.replicate_succ];rfl
theorem Z1r (k:Nat):iD k k=List.range k:=by simp [iD]
def fY (s:List Nat) (k i j:Nat):List Nat:=s.take i++((List.range (j-i)).map fun q=>s.getD i 0+1+q)++s.drop j
theorem Z3y {s:List Nat} {k i j:Nat} (hs:s.length=k) (pO:i<=j) (hj:j<=k):(fY s k i j).length=k:=by
 unfold fY;simp [hs];omega
theorem Z03 {s:List Nat} {k i:Nat} (hs:s.length=k) (hi:i<k):s.set i (s.getD i 0+1)=fY s k i (i+1):=by
 unfold fY;rw [show i+1-i=1 by omega];apply List.ext_getElem?;intro q;rw [oK];by_cases e:i=q
 ·subst e;rw [if_pos rfl,if_pos (by omega),List.append_assoc,oC (by simp;omega),ny,show i-min i s.length=0 by omega];rfl
 ·rw [if_neg e,List.append_assoc];by_cases hq:q<i;·rw [oB (by simp;omega),List.getElem?_take,if_pos hq]
  ·rw [oC (by simp;omega),ny,show q-min i s.length=(q-i-1)+1 by omega];simp [oI];congr 1;omega
theorem Z3x {s:List Nat} {k i j:Nat} (hs:s.length=k) (pO:i<j) (hj:j<=k):(fY s k i j)[j-1]?=some (s.getD i 0+(j-i)):=by
 unfold fY;rw [List.append_assoc,oC (by simp;omega),ny,oB (by simp;omega),show j-1-min i s.length=j-i-1 by omega,nx,List.getElem?_range (by omega)];simp;omega
theorem Z3z {s:List Nat} {k i j:Nat} (hs:s.length=k) (pO:i<j) (hj:j<k):∃ x,(fY s k i j)[j]?=some x:=by
 have:=Z3y (s:=s) (k:=k) (i:=i) (j:=j) hs (by omega) (by omega);exact ⟨_,ns (by omega)⟩
theorem Z3A {s:List Nat} {k i j:Nat} (hs:s.length=k) (pO:i<j) (hj:j<k):(fY s k i j).set j (s.getD i 0+(j-i)+1)=fY s k i (j+1):=by
 unfold fY;have h1:(s.take i++((List.range (j-i)).map fun q=>s.getD i 0+1+q)).length=j:=by simp;omega
 rw [List.set_append_right _ _ (by omega),h1,show j-j=0 by omega,List.drop_eq_getElem_cons (by omega),List.set_cons_zero,show j+1-i=(j-i)+1 by omega,List.range_succ,List.map_append,List.append_assoc,List.append_assoc,List.append_assoc];simp;omega
theorem Z3w {s:List Nat} {n k i:Nat} (hs:s.length=k) (ht:iP n k s k=some i):jz n k s=some (fY s k i k):=by
 unfold jz fY;rw [ht,List.drop_eq_nil_of_le (by omega),List.append_nil]
theorem e9_ (n:Nat) (hn:1<=n) (N k:Nat) (L6:k<=N) (hN:N<=12) (L:List (List Nat)) (hL:Z5p N k L) (B1 B2:Nat) (w:World) (h1:Boxed w B1 3 (.int .i64 (k:Int))) (h2:Boxed w B2 3 (.int .i64 (N:Int))) :
  jb Fence.wide n prog 273 #[.pointer (some ⟨B1,0,none⟩),.pointer (some ⟨B2,0,none⟩)] 3 L w:=by
 intro l J W hW hJ hY h0;obtain ⟨i0,hi,oy,hz1,hz2⟩:=info_parts jK;have HI:=np hi;have HZ0:=np oy;have HZ1:=np hz1;have HZ2:=np hz2;have hb1:Boxed W B1 3 (.int .i64 (k:Int)):=(hW.block B1 h1.lt).trans h1;have oY:Boxed W B2 3 (.int .i64 (N:Int)):=(hW.block B2 h2.lt).trans h2;have HB1:=np hb1;have HB2:=np oY;have HJ:=np hJ;have HY:=np hY;have H0:=np h0;have HL:=np hL;have c1:=hb1.cell;clear hi oy hz1 hz2 h1 h2 hb1 oY hJ hY h0 hW;refine callsIn_of_wp func273 rfl trivial ?_ rfl;simp only [ntmps273,List.size_toArray,List.length_cons,List.length_nil,Nat.reduceAdd,Nat.reduceSub,Array.replicate_succ,Array.replicate_zero,List.push_toArray,List.append_toArray,List.nil_append,List.cons_append]
 gi_wp2_with (gi_at_make;refine R4_ _ rfl _ _ 29 rfl W.heap.size 3 i0 (.int .i64 0) 1 underlying29 HI HZ0 HZ1 _ _ _ _ k rfl rfl rfl rfl ?c1 ?c2 ?c3 ?_)
 any_goals (first | (rw [HZ2.out];omega) | (unfold maxLen;omega) | exact n9 _)
 intro w3 hown oV;rw [q3_] at hown;have HS0:Hid (cl J 0 W.heap.size W.heap.size k N B1 B2 w3 (iD k 0)):=by
  refine ⟨HJ 0 W w3 none H0 oV (fun r e=>by cases e),?_,HB1.kept oV (by simp),HB2.kept oV (by simp),HB1.lt,HB2.lt⟩;have e:lp (iD k 0)=(List.replicate (k*1) (0:Int)).map (Value.int .i64):=by simp [lp,iD]
  rw [e];simpa using hown
 clear hown oV c1
 gi_wp2_with fail
 gi_loopw [12] (fun t wr=>∃ i:Nat,i<=k/\t=.int .i64 i/\Hid (cl J 0 W.heap.size W.heap.size k N B1 B2 wr (iD k i))) (fun t _=>k-(intOf t).toNat)
 case atStart=>exact ⟨0,by omega,rfl,HS0⟩
 case round =>
  obtain ⟨i,ru,rfl,HS⟩:=hrel;by_cases hlt:i<k
  ·obtain ⟨c0,f0⟩:=HS.cell (Z1s hlt);have HN:=np (HS.set HJ i i);rw [Z1t hlt] at HN
   gi_wp2_with fail
   go_roundw
   case rel=>exact ⟨i+1,by omega,by go_num,HN⟩
   case measure=>simp [intOf];omega
  ·obtain rfl:i=k:=(by omega);rw [Z1r] at HS;clear HS0
   gi_wp2_with fail
   gi_loopw [6] (fun t wr=>∃ (q:Nat) (s:List Nat),L[q]?=some s/\Hid (cl J q W.heap.size W.heap.size i N B1 B2 wr s)) (fun _ wr=>1000000000000000000-Z60 wr W.heap.size i)
   case atStart=>exact ⟨0,_,HL.head,HS⟩
   case round =>
    obtain ⟨q,s,hq,HT⟩:=hrel;have HQ:=np hq;have HEN:=np HT.enc;have HBD:=np (HL.bd s (nw hq));have hsl:=HL.len s (nw hq);have HSL:=np hsl;have e1:=HT.b1.cell;have e2:=HT.b2.cell;obtain ⟨fn,tmps,assign,body,Dj,hR⟩:=HY q s _ wr hq HT.j HT.setAt;have hle:(i:Int)<=(N:Int):=(by omega);clear hsl hq
    gi_wp2_with fail
    refine hR.mono ?_;rintro e W3 ⟨rfl,Bv,hk3⟩;have HT3:=np (HT.round Bv hk3);have d1:=HT3.b1.cell;have d2:=HT3.b2.cell;clear hR Dj e1 e2 Bv hk3;have p1:IntKind.i64.wrap ((i:Int)-1)=(i:Int)-1:=(by rw [IntKind.wrap_i64];omega);have p2:IntKind.i64.wrap ((N:Int)-(i:Int))=(N:Int)-(i:Int):=(by rw [IntKind.wrap_i64];omega);have GV:Hid (∀ m,cl J (q+1) W.heap.size W.heap.size i N B1 B2 (W3.drewN m) s):=fun m=>HT3.drawn HJ m
    gi_wp2_with fail
    gi_loopw [6] (fun t wr=>∃ (r:Nat) (x:Int),r<=i/\t=.int .i64 x/\x=(r:Int)-1/\Hid (cl J (q+1) W.heap.size W.heap.size i N B1 B2 wr s)/\Hid (iP N i s i=iP N i s r)) (fun t _=>(intOf t+1).toNat)
    case atStart=>exact ⟨i,(i:Int)-1,n9 _,rfl,rfl,HT3,rfl⟩
    case round =>
     obtain ⟨r,x,qY,rfl,hx,HT4,yP⟩:=hrel;clear d1 d2 p1;have e1:=HT4.b1.cell;have e2:=HT4.b2.cell;have HTD:Hid (∀ m,cl J (q+1) W.heap.size W.heap.size i N B1 B2 (wr.drewN m) s):=fun m=>HT4.drawn HJ m;cases r with
     | zero =>
      obtain rfl:x=-1:=(by omega);have HEND:Hid (q+1=L.length):=by
       have h1:jz N i s=none:=by
        unfold jz;have:iP N i s i=none:=yP.out;rw [this]
       have h2:=HL.next q s HQ
       rw [h1] at h2;have h3:=List.getElem?_eq_none_iff.1 h2.symm;have h4:=(nt.1 HQ).1;unfold Hid;omega
      clear hx
      gi_wp2_with fail
      gi_quiet (fail)
      gi_wp2_with fail
      refine bodyPost_ret (results_none rfl _ _ _) rfl ⟨⟨_,rfl⟩,?_⟩;rw [<- HEND.out];exact (HTD _).j
     | succ r =>
      obtain rfl:x=(r:Int):=(by omega);have xM:r<s.length:=(by rw [HSL.out];omega);obtain ⟨v,hv⟩:∃ v,s[r]?=some v:=⟨_,ns xM⟩;have hvN:=HL.lt s (nw HQ) v (nw hv);obtain ⟨g1,g2⟩:=HT4.cell hv;have HV:=np hv;have qB:s.getD r 0=v:=(by rw [nu,hv];rfl);have HGD:=np qB;have p3:IntKind.i64.wrap ((N:Int)-(i:Int)+(r:Int))=(N:Int)-(i:Int)+(r:Int):=(by rw [IntKind.wrap_i64];omega);have p4:(0:Int)<=(r:Int):=(by omega);have p5:(r:Int)<(i:Int):=(by omega);by_cases rn:v+i=N+r
      ·have hq:((v:Int) == (N:Int)-(i:Int)+(r:Int))=true:=(by rw [beq_iff_eq];omega);have GW:Hid (iP N i s i=iP N i s r):=by
        unfold Hid;rw [yP.out];show (if s.getD r 0+i=N+r then iP N i s r else some r)=_;rw [qB,if_pos rn]
       have p6:IntKind.i64.wrap ((r:Int)-1)=(r:Int)-1:=(by rw [IntKind.wrap_i64];omega);clear hx hv qB rn xM yP
       gi_wp2_with fail
       gi_quiet (fail)
       gi_wp2_with fail
       go_roundw
       case rel=>exact ⟨r,(r:Int)-1,by omega,by go_num,rfl,HTD _,GW⟩
       case measure=>simp [intOf] <;> omega
      ·have hq:((v:Int) == (N:Int)-(i:Int)+(r:Int))=false:=(by rw [beq_eq_false_iff_ne];omega);have GW:Hid (iP N i s i=some r):=by
        unfold Hid;rw [yP.out];show (if s.getD r 0+i=N+r then iP N i s r else some r)=_;rw [qB,if_neg rn]
       have p6:¬ (r:Int)<0:=(by omega);have p7:IntKind.i64.wrap ((v:Int)+1)=(v:Int)+1:=(by rw [IntKind.wrap_i64];omega);have p8:IntKind.i64.wrap ((r:Int)+1)=(r:Int)+1:=(by rw [IntKind.wrap_i64];omega);have HSET:Hid (∀ m,cl J (q+1) W.heap.size W.heap.size i N B1 B2 ((wr.drewN m).setCell ⟨W.heap.size,r,none⟩ (.int .i64 ((v:Int)+1))) (fY s i r (r+1))):=fun m=>by
        have:=(HTD m).set HJ r (v+1);rw [<- qB,Z03 HSL.out (by omega),qB] at this;exact this
       clear hx hv qB rn xM yP
       gi_wp2_with fail
       gi_quiet (fail)
       gi_wp2_with fail
       gi_loopw [7] (fun t wr=>∃ j:Nat,r<j/\j<=i/\t=.int .i64 (j:Int)/\Hid (cl J (q+1) W.heap.size W.heap.size i N B1 B2 wr (fY s i r j))) (fun t _=>i-(intOf t).toNat)
       case atStart=>exact ⟨r+1,by omega,by omega,by go_num,HSET _⟩
       case round =>
        obtain ⟨j,D7,sh,rfl,AO⟩:=hrel;clear g1 g2 e1 e2;have e1:=AO.b1.cell;by_cases hlt2:j<i
        ·obtain ⟨y,hy⟩:=Z3z (s:=s) HSL D7 hlt2;have hz:=Z3x (s:=s) HSL D7 sh;obtain ⟨g1,g2⟩:=AO.cell hy;obtain ⟨g3,g4⟩:=AO.cell hz;have hb1:=HL.lt s (nw HQ) v (nw HV);have HN:=np (AO.set HJ j (s.getD r 0+(j-r)+1));rw [Z3A HSL.out D7 hlt2] at HN;obtain ⟨z,yc⟩:=oO (s.getD r 0+(j-r));rw [<- yc] at g3 HN;have hzb:z<100:=(by rw [yc,HGD.out];omega);have pY:Hid (cl J (q+1) W.heap.size W.heap.size i N B1 B2 (wr.setCell ⟨W.heap.size,j,none⟩ (.int .i64 ((z:Int)+1))) (fY s i r (j+1))):=HN.out;have p9:IntKind.i64.wrap ((z:Int)+1)=(z:Int)+1:=(by rw [IntKind.wrap_i64];omega);have Lo:IntKind.i64.wrap ((j:Int)-1)=((j-1:Nat):Int):=(by rw [IntKind.wrap_i64];omega);have Ln:IntKind.i64.wrap ((j:Int)+1)=(j:Int)+1:=(by rw [IntKind.wrap_i64];omega);have Lm:(0:Int)<=((j-1:Nat):Int):=(by omega);have Ll:((j-1:Nat):Int)<(i:Int):=(by omega);have Lk:(j:Int)<(i:Int):=(by omega);clear hy hz yc HN
         gi_wp2_with fail
         go_roundw
         case rel=>exact ⟨j+1,by omega,by omega,by go_num,pY⟩
         case measure=>simp [intOf] <;> omega
        ·obtain rfl:j=i:=(by omega);have hnx:=HL.next q s HQ
         rw [Z3w HSL.out GW.out] at hnx;have HNX:=np hnx.symm;have HUP:=np (HL.up q s _ HQ hnx.symm);have HE6:=np AO.enc;clear hnx
         gi_wp2_with fail
         go_roundw
         case rel=>exact ⟨q+1,_,HNX,AO⟩
         case measure =>
          have a1:=HEN.out;have a2:=HE6.out;have a3:=HUP.out;have a4:=HBD.out;omega
end Go.Proofs.YtoonaddcfakamaaGreatDoor
namespace Go.Proofs.YtoonaddcfakamaaGreatDoor
open Go.RowKit Go.Proofs.Tryz
theorem f3_:(prog.info? 36).map (fun i=>(i.zero,i.size,i.bytes))=some (some (.slice none 0 0),1,24):=by kernel_rfl
theorem ew.ofOwn {w:World} {B g n c:Nat} {xs:oQ} (h:w.ownsRow B 3 1 (.slice (some ⟨g,0,none⟩) n c) n (xs.map (Value.int .i64 ·))):ew w g xs:=by
 have hl:=h.lt g (by simp [Value.ownBlock]);have hc:=h.cells (g:=g) (by simp [Value.ownBlock]);refine ⟨hl.2,fun j x hx=>?_,fun j=>h.frozenAt j⟩;have:=hc j (.int .i64 x) (by rw [nx,hx];rfl);rw [show (⟨g,0,none⟩:Addr).add j=⟨g,j,none⟩ by unfold Addr.add;split <;> simp_all] at this;exact this
theorem ew.set {w:World} {g:Nat} {xs:oQ} (h:ew w g xs) (k:Nat) (hk:k<xs.length) (y:Int):ew (w.setCell ⟨g,k,none⟩ (.int .i64 y)) g (xs.set k y):=by
 refine ⟨by rw [gJ];exact h.lt,fun j x hj=>?_,fun j=>by rw [nC];exact h.free j⟩;rw [oK] at hj;by_cases e:k=j
 ·subst e;rw [if_pos rfl,if_pos hk] at hj;cases hj;exact World.cell?_setCell_same w _ _ (h.cell k _ (ns hk))
 ·rw [if_neg e] at hj;rw [World.cell?_setCell_other _ _ _ _ (by intro e2;simp only [Addr.mk.injEq] at e2;omega)];exact h.cell j x hj
theorem ew.ext {w w':World} {g:Nat} {xs:oQ} (h:ew w g xs) (he:aA w w'):ew w' g xs:=h.same he.size (he.block g h.lt)
theorem ew.ints {w:World} {g c:Nat} {xs:oQ} (h:ew w g xs) (h1:xs.length<=c) (h2:c<=9223372036854775807) (hb:∀ x∈xs,-9223372036854775808<=x/\x<=9223372036854775807):aK w (.slice (some ⟨g,0,none⟩) xs.length c) xs:=by
 refine ⟨xs.map fun x=>[Value.int .i64 x],by simp,by simp,?_,?_⟩
 ·rw [eW];refine ⟨_,c,rfl,h1,by unfold maxLen;omega,fun e=>by simp at e,fun _=>⟨g,0,rfl,h.lt,fun j u hu=>?_⟩⟩;rw [nx] at hu;obtain ⟨x,hx,rfl⟩:=Option.map_eq_some_iff.1 hu;rw [Nat.zero_add];exact h.cell j x hx
 ·intro j u x hu hx;simp only [nx,hx,Option.map_some,Option.some.injEq] at hu;exact ⟨hu.symm,hb x (nw hx)⟩
theorem bp.rows2 {e:TypeId} {w:World} {ob base:Nat} {v:Value} {tags:List (Nat×Nat)} {m:oP} (h:bp Z62 e w ob base v tags m) (hb:∀ r∈m,∀ x∈r,-9223372036854775808<=x/\x<=9223372036854775807):aV w v m:=by
 have hl:=Z2A (m:=m) h.len;refine ⟨(iO tags m).map fun u=>[u],by simp [hl],by simp,?_,?_⟩
 ·have:=dD.of_owns h.own;rw [eW (fun u:Value=>u),List.map_id'];exact this
 ·intro j u x hu hx;have hj:j<tags.length:=by rw [h.len];exact (nt.1 hx).1
  have ht:tags[j]?=some tags[j]:=ns hj;obtain ⟨h1,h2,h3,-,-⟩:=h.row j _ x ht hx;rw [nx] at hu;unfold iO at hu;rw [List.getElem?_zipWith,ht,hx] at hu;simp only [Option.map_some,Option.some.injEq] at hu;exact ⟨_,hu.symm,ew.ints h3 h1 h2 (hb x (nw hx))⟩
def cI (m:oP) (R C:List Nat):oP:=R.map fun i=>C.map fun j=>(m.getD i []).getD j 0
theorem km (m:oP) (R C:List Nat):(cI m R C).length=R.length:=by simp [cI]
theorem P5_ (m:oP) (R C:List Nat):bw C.length (df (cI m R C)):=by
 intro r hr;unfold df cI at hr;obtain ⟨q,hq,rfl⟩:=List.mem_map.1 hr;obtain ⟨i,-,rfl⟩:=List.mem_map.1 hq;simp [cZ]
theorem Z54 {m:oP} {R C:List Nat} {i j a b:Nat} (hi:R[i]?=some a) (hj:C[j]?=some b):aJ (df (cI m R C)) i j=(((m.getD a []).getD b 0:Int):Rat):=by
 refine my ?_;rw [ku (r:=cZ (C.map fun j=>(m.getD a []).getD j 0))];·simp [cZ,hj]
 ·simp [df,cI,hi]
end Go.Proofs.YtoonaddcfakamaaGreatDoor
namespace Go.Proofs.YtoonaddcfakamaaGreatDoor
open Go.RowKit Go.Shelf Go.Proofs.Tryz
theorem E5_ (n k:Nat) (w:World) (hn:n<=12) (hk:k<=n) :
  oM 201 #[.int .i64 (n:Int),.int .i64 (k:Int)] w (.int .i64 (eA n k:Int)):=by
 have HB:Hid (∀ i,i<=k->eA n i<=1000):=fun i hi=>by
  obtain ⟨-,h1,h2⟩:=nY (n:=n) (k:=i) hn (by omega);omega
 go_enter func201,ntmps201
 go_wp2
 go_loopw [8,5] (fun t v wr=>∃ i:Nat,i<=k/\t=.int .i64 (i:Int)/\v=.int .i64 (eA n i:Int)/\w=wr) (fun t _ _=>k-(intOf t).toNat)
 case atStart=>exact ⟨0,by omega,rfl,rfl,rfl⟩
 case round =>
  obtain ⟨i,hi,rfl,rfl,rfl⟩:=hrel;by_cases hlt:i<k
  ·have hb:=HB i hi;obtain ⟨c,hc⟩:=oO (eA n i);have hnx:eA n (i+1)=c*(n-i) / (i+1):=(by rw [hc];rfl);rw [<- hc] at hb |-;have Hr:c*(n-i)<=1000*12:=Nat.mul_le_mul hb (by omega);have e1:(c:Int)*((n:Int)-(i:Int))=((c*(n-i):Nat):Int):=by
    rw [Int.natCast_mul,Int.ofNat_sub (show i<=n by omega)]
   have p1:IntKind.i64.wrap ((n:Int)-(i:Int))=(n:Int)-(i:Int):=(by rw [IntKind.wrap_i64];omega);have p2:IntKind.i64.wrap ((c:Int)*((n:Int)-(i:Int)))=((c*(n-i):Nat):Int):=(by rw [e1,IntKind.wrap_i64];omega);have p3:IntKind.i64.wrap ((i:Int)+1)=(i:Int)+1:=(by rw [IntKind.wrap_i64];omega);have p4:((((c*(n-i):Nat):Int)).tdiv ((i:Int)+1))=(eA n (i+1):Int):=by
    rw [hnx];rfl
   have hle:eA n (i+1)<=12000:=by
    rw [hnx];exact n8 (Nat.div_le_self _ _) Hr
   have p5:wrap64 (eA n (i+1):Int)=(eA n (i+1):Int):=(by unfold wrap64;omega);have p6:((i:Int)+1 == 0)=false:=(by rw [beq_eq_false_iff_ne];omega);have p7:¬ ((i:Int)+1=0):=(by omega);clear hc hnx e1 Hr hle hb
   go_wp2
   go_roundw
   case rel=>refine ⟨i+1,by omega,by go_num,by rw [<- Int.natCast_mul,p4];exact congrArg _ p5,by first | rfl | trivial⟩
   case measure=>simp [intOf];omega
  ·obtain rfl:i=k:=by omega
   go_wp2
   go_ret;exact ⟨rfl,rfl⟩
theorem d0_ (n k:Int) (w:World) :
  Calls prog 202 #[.int .i64 n,.int .i64 k] w fun e w'=>e=.returned (.func (.func 273) #[] #[.pointer (some ⟨w.heap.size+1,0,none⟩),.pointer (some ⟨w.heap.size,0,none⟩)])/\w'=(w.alloc (.cells #[.int .i64 n] 3)).alloc (.cells #[.int .i64 k] 3):=by
 go_enter func202,ntmps202
 go_wp2
 go_ret;exact ⟨rfl,rfl⟩
def i_ (B:Nat) (w:World) (v:Value) (l:oQ):Prop:=w.ownsRow B 3 1 v l.length (l.map (Value.int .i64 ·))
theorem i_.ext {B:Nat} {w w':World} {v:Value} {l:oQ} (h:i_ B w v l) (he:aA w w'):i_ B w' v l:=fN h he
theorem u6_ {o:Oper} {a:Act} {K:Act->World->Prop} {Q:Exit->Act->World->Prop} (w:World) (s x:Operand) (T2:TypeId) (Ak:prog.underlying T2=some (TypeDesc.slice 3)) (ho:o.op=Op.call { callee:=Callee.builtin Builtin.append,args:=#[s,x],argTypes:=#[T2,T2] }) (B:Nat)
  (v:Value) (l:oQ) (y:Int) (u:Array Value) (T:TypeId) (hs:a.eval s=v) (hB:i_ B w v l) (hx:a.eval x=.slice (some ⟨w.heap.size,0,none⟩) 1 1) (hu:u=#[.int .i64 y]) (hlen:l.length<1000000) (od:B<=w.heap.size)
  (h:∀ v' w',i_ B w' v' (l++[y])->Below B w w'->K (a.put o.dst v') w'):o.wp prog a (w.alloc (.cells u T)) K Q:=by
 subst hu;obtain ⟨i0,hi,hz,oe,pX⟩:=info_parts jK;have pJ:∀ j,(⟨w.heap.size,0,none⟩:Addr).add j=⟨w.heap.size,j,none⟩:=by intro j;unfold Addr.add;split <;> simp_all
 have hE:aA w (w.alloc (.cells #[.int .i64 y] T)):=aA.alloc _ _;refine iw (w.alloc (.cells #[.int .i64 y] T)) s x T2 ho B 3 i0 (.int .i64 0) 1 8 Ak hi hz oe pX rfl (by decide) v l.length (l.map (Value.int .i64 ·)) hs (hB.ext hE) ⟨w.heap.size,0,none⟩ 1 1 [.int .i64 y] hx rfl ?_ ?_ ?_ ?_ ?_ ?_
 ·intro j q hq;rw [pJ,World.cell?_alloc_new];simpa using hq
 ·intro u hu;rw [List.mem_singleton.1 hu];rfl
 ·unfold maxLen;omega
 ·omega
 ·simp;omega
 ·intro v' w' hown oV _ qN;have rH:i_ B w' v' (l++[y]):=by
   unfold i_;rw [oJ,List.map_append];exact hown
  have pf:w.grownBy w' v.ownBlock:=fm (hE.grown _) oV;refine h v' w' rH ⟨pf.os,pf.tape,pf.output,pf.size,fun b hb=>pf.block b (by omega) fun e=>?_⟩;have:=(World.ownsRow.lt hB b e.symm).1;omega
def fT (l:oQ):List Value:=l.map fun n=>Value.string (aB n)
def numC (_:World) (u:List Value) (n:Int):Prop:=u=[.string (aB n)]
theorem numC.mono:gT numC:=fun _ _ _ _ _ h=>h
theorem numC.of_owns {w:World} {B:Nat} {v:Value} {L:oQ} (h:w.ownsRow B 92 1 v L.length (fT L)):aR 1 numC w v L:=by
 refine ⟨L.map fun n:Int=>[Value.string (aB n)],by simp,by simp,?_,?_⟩
 ·rw [eW (fun n:Int=>Value.string (aB n))];exact dD.of_owns h
 ·intro j u x hu hx;rw [nx,hx] at hu;exact (oA hu).symm
theorem Z3j:(prog.info? 92).map (fun i=>(i.zero,i.size,i.bytes))=some (some (.string ⟨#[]⟩),1,16):=by kernel_rfl
theorem u7_ {o:Oper} {a:Act} {K:Act->World->Prop} {Q:Exit->Act->World->Prop} (F:World) (s x:Operand) (ho:o.op=Op.call { callee:=Callee.builtin Builtin.append,args:=#[s,x],argTypes:=#[48,48] }) (B:Nat)
  (vo:Value) (L:oQ) (y:Int) (u:Array Value) (T:TypeId) (hs:a.eval s=vo) (hB:F.ownsRow B 92 1 vo L.length (fT L)) (hx:a.eval x=.slice (some ⟨F.heap.size,0,none⟩) 1 1) (hu:u=#[.string (aB y)]) (hlen:L.length<8000000) (od:B<=F.heap.size)
  (h:∀ v' w',w'.ownsRow B 92 1 v' (L.length+1) (fT L++[.string (aB y)])->(F.alloc (.cells u T)).grownBy w' vo.ownBlock->K (a.put o.dst v') w'):o.wp prog a (F.alloc (.cells u T)) K Q:=by
 subst hu;obtain ⟨i0,hi,hz,oe,pX⟩:=info_parts Z3j;have pJ:∀ j,(⟨F.heap.size,0,none⟩:Addr).add j=⟨F.heap.size,j,none⟩:=by intro j;unfold Addr.add;split <;> simp_all
 refine iw (F.alloc (.cells #[.string (aB y)] T)) s x _ ho B 92 i0 (.string ⟨#[]⟩) 1 16 underlying48 hi hz oe pX rfl (by decide) vo L.length (fT L) hs (hB.alloc _) ⟨F.heap.size,0,none⟩ 1 1 [.string (aB y)] hx rfl ?_ ?_ ?_ ?_ ?_ ?_
 ·intro j q hq;rw [pJ,World.cell?_alloc_new];simpa using hq
 ·intro u hu;rw [List.mem_singleton.1 hu];rfl
 ·unfold maxLen;omega
 ·omega
 ·simp;omega
 ·intro v' w' hown oV _ _;exact h v' w' hown oV
theorem Z5_ {α β:Type} (f:α->List β) (c:Nat) (h:∀ x,(f x).length=c):∀ l:List α,(l.flatMap f).length=l.length*c
 | []=>by simp
 | x::l=>by rw [List.flatMap_cons,oJ,h,Z5_ f c h l,List.length_cons,Nat.succ_mul];omega
structure er (w W:World) (Bm Bk Bo:Nat) (vm:Value) (k:Nat) (L:oQ):Prop where
 bm:Boxed W Bm 32 vm
 bk:Boxed W Bk 3 (.int .i64 (k:Int))
 out:∃ vo,Boxed W Bo 48 vo/\W.ownsRow w.heap.size 92 1 vo L.length (fT L)
 old:aA w W
 low:w.heap.size<=Bo/\w.heap.size<=Bm/\w.heap.size<=Bk
theorem Y6_ {W W':World} {B:Nat} {t:TypeId} {v:Value} {row:Option Nat} (h:Boxed W B t v) (hg:W.grownBy W' row) (hr:row≠some B):Boxed W' B t v:=h.kept hg (fun e=>hr (by first | exact e.symm | exact e | simpa using e.symm))
theorem er.grown {w W W':World} {Bm Bk Bo:Nat} {vm:Value} {k:Nat} {L:oQ} (h:er w W Bm Bk Bo vm k L) {row:Option Nat} (hg:W.grownBy W' row) (h1:row≠some Bm) (h2:row≠some Bk) (h3:row≠some Bo) (h4:∀ r,row=some r->w.heap.size<=r/\∀ C fr,W.heap[r]?≠some (.cells C 92 fr)):er w W' Bm Bk Bo vm k L:=by
 obtain ⟨vo,ho,hown⟩:=h.out;refine ⟨Y6_ h.bm hg h1,Y6_ h.bk hg h2,⟨vo,Y6_ ho hg h3,hown.kept hg ?_⟩,?_,h.low⟩
 ·cases row with
  | none=>cases hv:vo.ownBlock <;> simp
  | some r =>
   refine .inr fun e=>?_;rcases hown.2 with ⟨rfl,-⟩ | ⟨g,cap,cur,rfl,-,rJ,-⟩
   ·simp [Value.ownBlock] at e
   ·simp only [Value.ownBlock,Option.some.injEq] at e;subst e;exact (h4 g rfl).2 _ _ rJ
 ·refine Below.trans h.old ⟨hg.os,hg.tape,hg.output,hg.size,fun b hb=>hg.block b (n7 hb h.old.size) fun e=>?_⟩;have:=(h4 b e.symm).1;omega
theorem er.ext {w W W':World} {Bm Bk Bo:Nat} {vm:Value} {k:Nat} {L:oQ} (h:er w W Bm Bk Bo vm k L) (he:aA W W'):er w W' Bm Bk Bo vm k L :=
 h.grown (he.grown none) (by simp) (by simp) (by simp) (fun r e=>by cases e)
structure cU (n0 Bo:Nat) (A B:World):Prop where
 os:B.os=A.os
 tape:B.tape=A.tape
 output:B.output=A.output
 size:A.heap.size<=B.heap.size
 block:∀ b,b<A.heap.size->(b<n0\/(b≠Bo/\∀ C fr,A.heap[b]?≠some (.cells C 92 fr)))->B.heap[b]?=A.heap[b]?
theorem cU.refl (n0 Bo:Nat) (A:World):cU n0 Bo A A:=⟨rfl,rfl,rfl,n9 _,fun _ _ _=>rfl⟩
theorem cU.trans {n0 Bo:Nat} {A B C:World} (h:cU n0 Bo A B) (g:cU n0 Bo B C):cU n0 Bo A C :=
 ⟨g.os.trans h.os,g.tape.trans h.tape,g.output.trans h.output,n8 h.size g.size,fun b hb hc=>by
  have e:=h.block b hb hc;refine (g.block b (n7 hb h.size) ?_).trans e;rcases hc with hc | ⟨h1,h2⟩
  ·exact .inl hc
  ·exact .inr ⟨h1,by rw [e];exact h2⟩⟩
theorem cU.grown {n0 Bo:Nat} {A B:World} {row:Option Nat} (hg:A.grownBy B row) (hr:∀ r,row=some r->r<A.heap.size->n0<=r/\(r=Bo\/∃ C fr,A.heap[r]?=some (.cells C 92 fr))):cU n0 Bo A B :=
 ⟨hg.os,hg.tape,hg.output,hg.size,fun b hb hc=>hg.block b hb fun e=>by
  obtain ⟨h1,h2⟩:=hr b e.symm hb;rcases hc with hc | ⟨k1,k2⟩
  ·omega
  ·rcases h2 with h2 | ⟨C,fr,h2⟩
   ·exact k1 h2
   ·exact k2 C fr h2⟩
theorem cU.ext {n0 Bo:Nat} {A B:World} (h:aA A B):cU n0 Bo A B:=⟨h.os,h.tape,h.output,h.size,fun b hb _=>h.block b hb⟩
theorem cU.later {n0 Bo:Nat} {A B C:World} (h:cU n0 Bo A B) {row:Option Nat} (hg:B.grownBy C row) (hr:∀ r,row=some r->A.heap.size<=r):cU n0 Bo A C :=
 ⟨hg.os.trans h.os,hg.tape.trans h.tape,hg.output.trans h.output,n8 h.size hg.size,fun b hb hc=>(hg.block b (n7 hb h.size) (fun e=>by have:=hr b e.symm;omega)).trans (h.block b hb hc)⟩
theorem jB.cells {T:TypeId} {W:World} {g n:Nat} {s:List Nat} (h:jB T W (.slice (some ⟨g,0,none⟩) n n) s) {j x:Nat} (hx:s[j]?=some x):W.cell? ⟨g,j,none⟩=some (.int .i64 (x:Int)):=by
 obtain ⟨g',C,fr,hv,-,hc⟩:=h.at_;simp only [Value.slice.injEq,Option.some.injEq,Addr.mk.injEq] at hv;obtain ⟨⟨rfl,-,-⟩,-,-⟩:=hv;exact hc j x hx
def fO (xs:oQ) (C:List Nat) (q:Nat):List Int:=(C.take q).map fun y=>xs.getD y 0
theorem Z0a {xs:oQ} {C:List Nat} {q y:Nat} {z:Int} (hy:C[q]?=some y) (hz:xs[y]?=some z):fO xs C (q+1)=fO xs C q++[z]:=by
 unfold fO;rw [nz,hy,List.map_append];simp [hz]
theorem p8_ {xs:oQ} {C:List Nat} {q:Nat} (h:q<=C.length):(fO xs C q).length=q:=by
 unfold fO;simp;omega
theorem Z1Z {m:oP} {xs:oQ} {C:List Nat} {x k:Nat} (h:C.length=k) (hx:m.getD x []=xs):fO xs C k=C.map fun j=>(m.getD x []).getD j 0:=by
 unfold fO;rw [hx,<- h,List.take_length]
theorem Z3K {m:oP} {R C:List Nat} (h:∀ r∈m,∀ x∈r,-1000000000<=x/\x<=(1000000000:Int)):∀ r∈cI m R C,∀ x∈r,-1000000000<=x/\x<=(1000000000:Int):=by
 intro r hr x hx;unfold cI at hr;obtain ⟨i,-,rfl⟩:=List.mem_map.1 hr;obtain ⟨j,-,rfl⟩:=List.mem_map.1 hx;rw [nu,nu];cases hi:m[i]? with
 | none=>simp
 | some q =>
  cases hj:q[j]? with
  | none=>simp [hj]
  | some y=>simpa [hj] using h q (nw hi) y (nw hj)
theorem p3_ {m:oP} {R C:List Nat}:∀ r∈cI m R C,r.length=C.length:=by
 intro r hr;unfold cI at hr;obtain ⟨i,-,rfl⟩:=List.mem_map.1 hr;simp
theorem Z09 {m:oP} {R C:List Nat} {p x:Nat} (h:R[p]?=some x):cI m (R.take (p+1)) C=cI m (R.take p) C++[C.map fun j=>(m.getD x []).getD j 0]:=by
 unfold cI;rw [nz,h,List.map_append];rfl
theorem cU.keepT {n0 Bo:Nat} {A B:World} (h:cU n0 Bo A B) (hB:∀ C fr,A.heap[Bo]?≠some (.cells C 3 fr)):fU 3 A B :=
 ⟨h.size,fun b C fr hb=>(h.block b (c_ hb) (.inr ⟨fun e=>hB C fr (by rw [<- e];exact hb),fun C' fr' e=>(by rw [hb] at e;simp at e)⟩)).trans hb⟩
theorem cU.keepF {n0 Bo B0:Nat} {A B:World} (h:cU n0 Bo A B) (hB:∀ o:Obj,A.heap[Bo]?=some o->o.isCells=true):KeepsFrom B0 A B :=
 ⟨h.size,fun b o _ hb ho=>(h.block b (c_ hb) (.inr ⟨fun e=>(by rw [e] at hb;rw [hB o hb] at ho;cases ho),fun C' fr' e=>(by rw [hb] at e;cases e;simp [Obj.isCells] at ho)⟩)).trans hb⟩
theorem er.box {w W:World} {Bm Bk Bo:Nat} {vm:Value} {k:Nat} {L:oQ} (h:er w W Bm Bk Bo vm k L):(∀ C fr,W.heap[Bo]?≠some (.cells C 3 fr))/\∀ o:Obj,W.heap[Bo]?=some o->o.isCells=true:=by
 obtain ⟨vo,ho,-⟩:=h.out;have ho2:W.heap[Bo]?=some (.cells #[vo] 48 (0,0)):=ho;refine ⟨fun C fr e=>?_,fun o e=>?_⟩;·rw [ho2] at e;simp at e
 ·rw [ho2] at e;cases e;rfl
theorem er.push {w F w1:World} {Bm Bk Bo:Nat} {vm:Value} {k:Nat} {L:oQ} (h:er w F Bm Bk Bo vm k L) {vo v':Value} {tmp:Obj} (qy:Boxed F Bo 48 vo) (hown:F.ownsRow w.heap.size 92 1 vo L.length (fT L)) (x:Int)
  (pR:w1.ownsRow w.heap.size 92 1 v' (L.length+1) (fT L++[.string (aB x)])) (oV:(F.alloc tmp).grownBy w1 vo.ownBlock) (h1:Bm≠Bo) (h2:Bk≠Bo) :
  er w (w1.setCell ⟨Bo,0,none⟩ v') Bm Bk Bo vm k (L++[x])/\cU w.heap.size Bo F (w1.setCell ⟨Bo,0,none⟩ v')/\w1.cell? ⟨Bo,0,none⟩=some vo/\w1.frozen? ⟨Bo,0,none⟩=false:=by
 obtain ⟨hv1,qe,pF,hk2,oY⟩:=qy.appended (by decide) hown h.old.size h.low.1 pR oV;have b1:Boxed w1 Bm 32 vm:=(h.bm.alloc tmp).kept oV (h.bm.not_row (by decide) hown);have b2:Boxed w1 Bk 3 (.int .i64 (k:Int)):=(h.bk.alloc tmp).kept oV (h.bk.not_row (by decide) hown);refine ⟨⟨b1.other h1 v',b2.other h2 v',⟨v',qe,?_⟩,Below.trans h.old oY,h.low⟩,?_,hv1.cell,hv1.frozen⟩
 ·rw [oJ,show fT (L++[x])=fT L++[.string (aB x)] from by simp [fT]];exact pF
 ·refine ((cU.ext (aA.alloc F tmp)).trans (cU.grown oV fun r e hlt=>?_)).trans (cU.grown (eL w1 Bo 0 v') fun r e hlt=>?_)
  ·rcases hown.2 with ⟨rfl,-⟩ | ⟨g,cap,cur,rfl,hg1,rJ,-⟩
   ·simp [Value.ownBlock] at e
   ·simp only [Value.ownBlock,Option.some.injEq] at e;subst e;exact ⟨hg1,.inr ⟨_,_,aF rJ (aA.alloc F tmp)⟩⟩
  ·have e:=oA e;subst e;exact ⟨h.low.1,.inl rfl⟩
end Go.Proofs.YtoonaddcfakamaaGreatDoor
