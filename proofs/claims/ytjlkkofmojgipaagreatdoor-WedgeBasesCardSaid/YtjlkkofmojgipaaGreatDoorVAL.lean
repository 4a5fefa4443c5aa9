import Derived.Test.YtjlkkofmojgipaaGreatDoorVAB
import Derived.Test.YtjlkkofmojgipaaGreatDoorVAA
import Derived.WalkSmall
import Derived.IntWalk
import Derived.OwnWalk
import Derived.Lib.ConvBytes
import Derived.Test.YtjlkkofmojgipaaGreatDoorVAE
import Derived.Laws.AppendOwnNone
import Derived.Deep.Cut
import Derived.Lib.ParseIntBTie
import Derived.Test.YtjlkkofmojgipaaGreatDoorVAK
set_option linter.unusedVariables false
set_option linter.unusedSimpArgs false
set_option maxRecDepth 1000000
set_option maxHeartbeats 4000000
namespace Go.Proofs.YtjlkkofmojgipaaGreatDoor
open Go.RowKit Go.Proofs.Tryz
def bw (p:List Nat) (i:Nat):Nat:=p.getD i 0
theorem jZ {p:List Nat} {i x:Nat} (h:p[i]?=some x):bw p i=x:=by
 unfold bw;rw [oD,h];rfl
theorem kC {p:List Nat} {i:Nat} (h:p.length<=i):bw p i=0:=by
 unfold bw;rw [oD,oL h];rfl
theorem lC {p:List Nat} (h:aM p) (i:Nat):bw p i<1000000000:=by
 by_cases hi:i<p.length;·rw [jZ (oB hi)];exact h _ (List.getElem_mem hi)
 ·rw [kC (by omega)];omega
theorem nc (p:List Nat) (i:Nat):lv (p.take (i+1))=lv (p.take i)+pB i*bw p i:=by
 by_cases hi:i<p.length
 ·have h:=oB hi;rw [iz h,jZ h]
 ·rw [kC (by omega),List.take_of_length_le (by omega),List.take_of_length_le (by omega)];rfl
theorem Z2D (l:List Nat) (x:Nat):lv (l++[x])=lv l+pB l.length*x:=by
 rw [iT,eW,ck,Nat.mul_zero,Nat.add_zero]
structure iE (p q:List Nat) (i c:Nat) (L:List Nat):Prop where
 len:L.length=i
 pcs:aM L
 le:c<=1
 val:lv L+c*pB i=lv (p.take i)+lv (q.take i)
theorem iE.start (p q:List Nat):iE p q 0 0 []:=⟨rfl,aM.nil,by omega,by simp [ck]⟩
theorem iE.step {p q L:List Nat} {i c s:Nat} (h:iE p q i c L) (hp:aM p) (hq:aM q) (hs:s=c+bw p i+bw q i):iE p q (i+1) (s / 1000000000) (L++[s%1000000000]):=by
 have h1:=lC hp i;have h2:=lC hq i;have h3:=h.le;refine ⟨by rw [oV,h.len];rfl,h.pcs.append (aM.cons (by omega) aM.nil),by omega,?_⟩;rw [Z2D,h.len,nc,nc,ew];have hv:=h.val;have e:=Nat.div_add_mod s 1000000000;generalize s / 1000000000=d at *
 generalize s%1000000000=m at *
 subst hs;generalize lv L=A at *
 generalize pB i=P at *
 grind
theorem iE.done {p q L:List Nat} {i:Nat} (h:iE p q i 0 L) (h1:p.length<=i) (h2:q.length<=i):lv L=lv p+lv q:=by
 have:=h.val;rw [List.take_of_length_le h1,List.take_of_length_le h2,Nat.zero_mul,Nat.add_zero] at this;exact this
structure jK (p q:List Nat) (i b:Nat) (L:List Nat):Prop where
 len:L.length=i
 pcs:aM L
 le:b<=1
 val:lv L+lv (q.take i)=lv (p.take i)+b*pB i
theorem jK.start (p q:List Nat):jK p q 0 0 []:=⟨rfl,aM.nil,by omega,by simp [ck]⟩
theorem jK.step {p q L:List Nat} {i b x b':Nat} (h:jK p q i b L) (hx:x<1000000000) (hb:b'<=1) (he:x+bw q i+b=bw p i+b'*1000000000):jK p q (i+1) b' (L++[x]):=by
 refine ⟨by rw [oV,h.len];rfl,h.pcs.append (aM.cons hx aM.nil),hb,?_⟩;rw [Z2D,h.len,nc,nc,ew];have hv:=h.val;have h2:pB i*(x+bw q i+b)=pB i*(bw p i+b'*1000000000):=by rw [he]
 generalize pB i=P at *
 grind
theorem jK.done {p q L:List Nat} {b:Nat} (h:jK p q p.length b L) (hp:aM p) (hq:q.length<=p.length) (hl:lv q<=lv p):lv L=lv p-lv q/\b=0:=by
 have hv:=h.val;rw [List.take_of_length_le (oK _),List.take_of_length_le hq] at hv;have h1:=eX h.pcs;rw [h.len] at h1;have h2:=h.le;have hb:b=0:=by
  false_or_by_contra
  have:b=1:=by omega
  subst this;omega
 subst hb;omega
structure jj (p q:List Nat) (i:Nat) (L:List Nat):Prop where
 len:L.length=p.length+q.length+1
 pcs:aM L
 val:lv L=lv (p.take i)*lv q
structure iI (p q:List Nat) (i x k c:Nat) (L:List Nat):Prop where
 len:L.length=p.length+q.length+1
 pcs:aM L
 lt:c<1000000000
 val:lv L+c*pB (i+k)=lv (p.take i)*lv q+x*(lv (q.take k)*pB i)
theorem jj.start (p q:List Nat):jj p q 0 (List.replicate (p.length+q.length+1) 0) :=
 ⟨by simp,aM.zeros _,by rw [x6_,List.take_zero,ck,Nat.zero_mul]⟩
theorem jj.enter {p q L:List Nat} {i:Nat} (x:Nat) (h:jj p q i L):iI p q i x 0 0 L :=
 ⟨h.len,h.pcs,by omega,by rw [h.val,List.take_zero,ck];simp⟩
theorem iI.room {p q L:List Nat} {i x k c:Nat} (h:iI p q i x k c L) (hp:aM p) (hq:aM q) (hx:p[i]?=some x) (hk:k<q.length\/0<c):i+k<p.length+q.length+1:=by
 have hi:=(oC.1 hx).1;rcases hk with hk | hk;·omega
 ·false_or_by_contra
  rename_i hn;have h1:=eX hp;have h2:=eX hq;have h3:=C5_ p (i+1);rw [iz hx] at h3;have h4:=C5_ q k;have h5:lv (p.take i)*lv q+x*(lv (q.take k)*pB i)<=lv p*lv q:=by
   have h6:x*(lv (q.take k)*pB i)<=(pB i*x)*lv q:=by
    have:=Nat.mul_le_mul_left (pB i*x) h4;have e:x*(lv (q.take k)*pB i)=pB i*x*lv (q.take k):=(by grind);omega
   have h7:=Nat.mul_le_mul_right (lv q) h3;rw [Nat.add_mul] at h7;omega
  have h8:lv p*lv q<pB (p.length+q.length):=by rw [lA];exact Nat.mul_lt_mul'' h1 h2
  have h9:pB (p.length+q.length)<=pB (i+k):=w5_ (by omega);have h10:1*pB (i+k)<=c*pB (i+k):=Nat.mul_le_mul_right _ hk;have hv:=h.val;omega
theorem iI.step {p q L:List Nat} {i x k c a y c':Nat} (h:iI p q i x k c L) (ha:L[i+k]?=some a) (hx:x<1000000000) (hq:aM q) (hc:c'=c+a+x*bw q k) (hy:y=c'%1000000000) :
  iI p q i x (k+1) (c' / 1000000000) (L.set (i+k) y):=by
 have h1:=h.lt;have h2:=h.pcs.get ha;have h3:=lC hq k;have h4:x*bw q k<=999999999*999999999:=Nat.mul_le_mul (by omega) (by omega);refine ⟨by rw [List.length_set];exact h.len,h.pcs.set _ _ (by omega),by omega,?_⟩
 exact U6_ (P:=pB (i+k)) (P':=pB (i+k+1)) (c:=c) (x:=a) (y:=y) (ab:=x*bw q k) (acc2:=x*(lv (q.take (k+1))*pB i)) (ew _) h.val hc hy (na y ha) (by
   rw [nc,lA];grind)
theorem iI.leave {p q L:List Nat} {i x k:Nat} (h:iI p q i x k 0 L) (hk:q.length<=k) (hx:p[i]?=some x):jj p q (i+1) L:=by
 refine ⟨h.len,h.pcs,?_⟩;have h2:=h.val;rw [List.take_of_length_le hk,Nat.zero_mul,Nat.add_zero] at h2;rw [h2,iz hx];grind
structure gW (p q:List Nat) (i:Nat) (L:List Nat) (R:Nat):Prop where
 len:L.length=p.length
 pcs:aM L
 low:∀ j,j<i->L[j]?=some 0\/p.length<=j
 val:lv (p.drop i)=lv (L.drop i)*lv q+R
 lt:R<lv q
theorem gW.start (p q:List Nat) (hq:0<lv q):gW p q p.length (List.replicate p.length 0) 0 :=
 ⟨by simp,aM.zeros _,fun j hj=>.inl (by rw [List.getElem?_replicate,if_pos hj]),by rw [List.drop_length,List.drop_eq_nil_of_le (by simp)];simp [ck],hq⟩
theorem gW.step {p q L:List Nat} {i R x d:Nat} (h:gW p q (i+1) L R) (hx:p[i]?=some x) (hp:aM p) (hd:d=(x+1000000000*R) / lv q) :
  gW p q i (L.set i d) ((x+1000000000*R)-d*lv q)/\d<1000000000/\d*lv q<=x+1000000000*R:=by
 have hi:=(oC.1 hx).1;have hxb:=hp.get hx;have hlt:=h.lt;have h0:0<lv q:=by omega
 have sN:d<1000000000:=by
  rw [hd,Nat.div_lt_iff_lt_mul h0];have:(R+1)*1000000000<=lv q*1000000000:=Nat.mul_le_mul_right _ hlt;omega
 have e:=Nat.div_add_mod (x+1000000000*R) (lv q);have e2:=Nat.mod_lt (x+1000000000*R) h0;rw [<- hd] at e;have e3:lv q*d=d*lv q:=Nat.mul_comm _ _;refine ⟨⟨by rw [List.length_set];exact h.len,h.pcs.set _ _ sN,fun j hj=>?_,?_,by omega⟩,sN,by omega⟩
 ·rw [oW,if_neg (by omega)];exact h.low j (by omega)
 ·have hL:(L.set i d)[i]?=some d:=by rw [oW,if_pos rfl,if_pos (by rw [h.len];exact hi)]
  rw [eu hx,eu hL,List.drop_set_of_lt (by omega),h.val,Nat.add_mul];have:1000000000*lv (L.drop (i+1))*lv q=1000000000*(lv (L.drop (i+1))*lv q):=Nat.mul_assoc _ _ _;omega
theorem gW.done {p q L:List Nat} {R:Nat} (h:gW p q 0 L R):lv L=lv p / lv q/\R=lv p%lv q:=by
 have hv:=h.val;rw [List.drop_zero,List.drop_zero] at hv;have hlt:=h.lt;rw [hv,Nat.mul_comm];constructor;·rw [Nat.mul_add_div (by omega),Nat.div_eq_of_lt hlt];rfl
 ·rw [Nat.mul_add_mod,Nat.mod_eq_of_lt hlt]
theorem k6_ {u:Nat} (h:0<u):(Lib.decDigits u).head?≠some 48\/(Lib.decDigits u).length=1:=by
 by_cases h1:(Lib.decDigits u).length=1;·exact .inr h1
 ·refine .inl fun e=>?_;have hv:=fy u;have hlen:=Lib.decDigits_length u;cases hl:Lib.decDigits u with
  | nil=>rw [hl] at e;cases e
  | cons c r =>
   rw [hl] at e hv hlen;simp only [List.head?_cons,Option.some.injEq] at e;subst e;have ha:=gL u;rw [hl,List.all_cons,Bool.and_eq_true] at ha;rw [fE] at hv;have h3:=nB r (0*10+((48:UInt8).toNat-48)) ha.2;rw [hv] at h3;have h4:=P2_ u (by omega);rw [<- hlen,List.length_cons] at h4;have:(0*10+((48:UInt8).toNat-48)+1)*10^r.length=10^r.length:=by
    rw [show (0*10+((48:UInt8).toNat-48)+1)=1 from rfl,Nat.one_mul]
   rw [this] at h3;rw [Nat.add_sub_cancel] at h4;omega
def iX (x:Nat):List UInt8:=List.replicate (9-(Lib.decDigits x).length) 48++Lib.decDigits x
theorem Z0s (n a:Nat):aj 0 (List.replicate n 48)=0:=by
 induction n with
 | zero=>rfl
 | succ n ih=>rw [List.replicate_succ,fE];exact ih
theorem Z4s {x:Nat} (h:x<1000000000):(iX x).length=9:=by
 unfold iX;rw [oV,List.length_replicate,Lib.decDigits_length];have:=kx x 9 (by rw [show (10:Nat)^9=1000000000 by decide];exact h) (by omega);omega
theorem Z4t (x:Nat):aj 0 (iX x)=x:=by
 unfold iX;rw [jR,Z0s _ 0];exact fy x
theorem Z0v {y x:Nat} (hy:0<y) (hx:x<1000000000):Lib.decDigits (x+1000000000*y)=Lib.decDigits y++iX x:=by
 have hne:Lib.decDigits y≠[]:=by
  intro e;have:=Lib.decDigits_length y;rw [e] at this;have:=Lib.nDigits_pos y;simp at *;omega
 have hall:(Lib.decDigits y++iX x).all bz=true:=by
  rw [List.all_append,gL,Bool.true_and];unfold iX;rw [List.all_append,gL,Bool.and_true,List.all_eq_true];intro c hc;have:=(List.mem_replicate.1 hc).2;subst this;decide
 have tC:aj 0 (Lib.decDigits y++iX x)=x+1000000000*y:=by
  rw [jR,fy,L3_,Z4t,Z4s hx];rw [show (10:Nat)^9=1000000000 by decide];omega
 rw [<- tC];refine (B0_ hall (by simp [hne]) ?_).symm;refine .inl fun e=>?_;have Ay:(Lib.decDigits y).head?=some 48:=by
  cases hl:Lib.decDigits y with
  | nil=>exact absurd hl hne
  | cons c r=>rw [hl] at e;simpa using e
 rcases k6_ hy with h | h;·exact h Ay
 ·cases hl:Lib.decDigits y with
  | nil=>exact absurd hl hne
  | cons c r =>
   rw [hl] at h Ay;have hr:r=[]:=(by simpa using h);subst hr;simp only [List.head?_cons,Option.some.injEq] at Ay;subst Ay;have:=fy y;rw [hl] at this;revert this;show 0=y->False;omega
theorem gu:(prog.info? 3).map (fun i=>(i.zero,i.size,i.bytes))=some (some (.int .i64 0),1,8):=by kernel_rfl
def pcJ (x:Nat):Value:=.int .i64 x
def a_ (B:Nat) (w:World) (v:Value) (l:List Nat):Prop:=w.ownsRow B 3 1 v l.length (l.map pcJ)
def pcRJ (_:World) (u:List Value) (x:Nat):Prop:=u=[pcJ x]
theorem pcRJ.mono:iD pcRJ:=fun _ _ _ _ _ h=>h
abbrev eR (w:World) (v:Value) (l:List Nat):Prop:=aH 1 pcRJ w v l
theorem eR.ext {w w':World} {v:Value} {l:List Nat} (h:eR w v l) (he:aA w w'):eR w' v l:=aH.ext pcRJ.mono h he
theorem a_.at {B:Nat} {w:World} {v:Value} {l:List Nat} (h:a_ B w v l):eR w v l:=by
 refine ⟨l.map fun x=>[pcJ x],by simp,by simp,?_,?_⟩
 ·have:=dQ.of_owns h
  rwa [di]
 ·intro j u x hu hx;simp only [oF,hx,Option.map_some,Option.some.injEq] at hu;exact hu.symm
theorem a_.ext {B:Nat} {w w':World} {v:Value} {l:List Nat} (h:a_ B w v l) (he:aA w w'):a_ B w' v l:=fN h he
theorem a_.form {B:Nat} {w:World} {v:Value} {l:List Nat} (h:a_ B w v l):∃ a cap,v=.slice a l.length cap/\l.length<=cap/\cap<=9223372036854775807/\(l≠[]->∃ g,a=some ⟨g,0,none⟩/\B<=g/\g<w.heap.size):=by
 rcases h.2 with ⟨rfl,hn⟩ | ⟨g,cap,cur,rfl,hb,hg,h1,h2,h3,h4⟩
 ·exact ⟨none,0,by rw [hn],by omega,by omega,fun hne=>absurd (List.length_eq_zero_iff.1 hn) hne⟩
 ·exact ⟨_,cap,rfl,h1,h2,fun _=>⟨g,rfl,hb,(Array.getElem?_eq_some_iff.1 hg).1⟩⟩
theorem a_.base {B B':Nat} {w:World} {v:Value} {l:List Nat} (h:a_ B w v l) (hb:B'<=B):a_ B' w v l:=by
 refine ⟨h.1,?_⟩;rcases h.2 with h' | ⟨g,cap,cur,e,hg,rest⟩
 ·exact .inl h'
 ·exact .inr ⟨g,cap,cur,e,oJ hb hg,rest⟩
theorem a_.nil (B:Nat) (w:World):a_ B w (.slice none 0 0) []:=World.ownsRow_nil w B 3 1
theorem a_.get {B g n cap:Nat} {w:World} {l:List Nat} (h:a_ B w (.slice (some ⟨g,0,none⟩) n cap) l) {k x:Nat} (hx:l[k]?=some x) :
  w.cell? ⟨g,k,none⟩=some (.int .i64 x)/\w.frozen? ⟨g,k,none⟩=false:=by
 have hk:k<l.length:=(oC.1 hx).1;have hn:n=l.length:=by
  rcases h.2 with ⟨e,_⟩ | ⟨g',cap',cur,e,_⟩
  ·cases e
  ·simp only [Value.slice.injEq] at e;exact e.2.1
 subst hn;exact ⟨(World.ownsRow.cellAt h k (by simpa using hk)).trans (by simp [hx,pcJ]),World.ownsRow.frozenAt h k⟩
theorem a_.set {B g n cap:Nat} {w:World} {l:List Nat} (h:a_ B w (.slice (some ⟨g,0,none⟩) n cap) l) (k x:Nat) :
  a_ B (w.setCell ⟨g,k,none⟩ (.int .i64 x)) (.slice (some ⟨g,0,none⟩) n cap) (l.set k x):=by
 have hn:n=l.length:=by
  rcases h.2 with ⟨e,_⟩ | ⟨g',cap',cur,e,_⟩
  ·cases e
  ·simp only [Value.slice.injEq] at e;exact e.2.1
 subst hn;unfold a_ at h |-;rw [List.map_set,List.length_set];exact (World.ownsRow.stored h k _).1
theorem a_.take {B g n cap:Nat} {w:World} {l:List Nat} (h:a_ B w (.slice (some ⟨g,0,none⟩) n cap) l) (m:Nat) (hm:m<=l.length) :
  a_ B w (.slice (some ⟨g,0,none⟩) m cap) (l.take m):=by
 have hl:(l.take m).length=m:=by rw [oG];omega
 refine ⟨by rw [List.length_map,Nat.mul_one],.inr ?_⟩;rcases h.2 with ⟨e,_⟩ | ⟨g',cap',cur,e,hb,hg,h1,h2,h3,h4⟩
 ·cases e
 ·simp only [Value.slice.injEq,Option.some.injEq,Addr.mk.injEq] at e;obtain ⟨⟨rfl,-,-⟩,rfl,rfl⟩:=e;refine ⟨g,cap,cur,by rw [hl],hb,hg,by omega,h2,h3,?_⟩;rw [Nat.mul_one] at h4 |-;rw [List.map_take,<- h4,List.take_take,hl,Nat.min_eq_left (by omega)]
theorem a_.len {B g n cap:Nat} {w:World} {l:List Nat} (h:a_ B w (.slice (some ⟨g,0,none⟩) n cap) l):n=l.length:=by
 rcases h.2 with ⟨e,_⟩ | ⟨g',cap',cur,e,_⟩
 ·cases e
 ·simp only [Value.slice.injEq] at e;exact e.2.1
theorem eR.open {w:World} {v:Value} {l:List Nat} (h:eR w v l) :
  ∃ (a:Option Addr) (cap:Nat),v=.slice a l.length cap/\l.length<=cap/\cap<=9223372036854775807 /\
   (l≠[]->∃ b off,a=some ⟨b,off,none⟩/\b<w.heap.size/\∀ (j:Nat) x,l[j]?=some x->w.cell? ⟨b,off+j,none⟩=some (.int .i64 x)):=by
 obtain ⟨a,cap,hv,h1,h2,h3,h4⟩:=aH.open h;refine ⟨a,cap,hv,h1,h2,fun hx=>?_⟩;obtain ⟨b,off,ha,hb,hc⟩:=h4 (by omega) hx;refine ⟨b,off,ha,hb,fun j x hj=>?_⟩;obtain ⟨u,_,hr,hcell⟩:=hc j x hj;have:=hcell 0 (by omega);rw [hr] at this;simpa [pcJ] using this
theorem a_.made {B n:Nat} {w:World} {v:Value} (h:w.ownsRow B 3 1 v n (madeCells #[.int .i64 0] n).toList):a_ B w v (List.replicate n 0):=by
 unfold a_;rw [List.length_replicate];have e:(madeCells #[Value.int .i64 0] n).toList=(List.replicate n 0).map pcJ:=(toList_madeCells_one _ _).trans (by simp [pcJ])
 rwa [e] at h
theorem a_.build {B:Nat} {w:World} {v:Value} {l:List Nat} (h:a_ B w v l):aU w B 3 1 v pcRJ l:=by
 refine ⟨l.map fun x=>[pcJ x],by simp,by simp,?_,?_⟩;·rw [di];exact h
 ·intro j u x hu hx w' _;simp only [oF,hx,Option.map_some,Option.some.injEq] at hu;exact hu.symm
theorem aU.ownJ {B:Nat} {w:World} {v:Value} {l:List Nat} (h:aU w B 3 1 v pcRJ l):a_ B w v l:=by
 obtain ⟨us,h1,h2,h3,h4⟩:=h;have:us=l.map fun x=>[pcJ x]:=by
  apply List.ext_getElem?;intro i;rw [oF];by_cases hi:i<l.length
  ·have pg:i<us.length:=(by omega);have:=(h4 i us[i] l[i] (by simp [pg]) (by simp [hi])).now;simp only [pcRJ] at this;simp [hi,pg,this]
  ·rw [oL (by omega),oL (by omega)];rfl
 rw [this,di] at h3;exact h3
theorem mM (B:Nat) (l:List Nat) (v:Value) (w:World) (h:a_ B w v l) (hp:aM l) :
  Calls prog 179 #[v] w fun e w'=>∃ v' l',e=.returned v'/\Hid (a_ B w' v' l'/\ah l'/\lv l'=lv l/\l'.length<=l.length)/\∃ k,w'=w.drewN k:=by
 obtain ⟨a,cap,rfl,hl,hc,hg⟩:=h.form;have HW:=oA h;have HP:=oA hp;have HG:=oA hg;clear h hp hg
 go_enter func179,ntmps179
 go_wp2_with fail
 go_loopw [3] (fun t wr=>∃ m:Nat,m<=l.length/\t=.int .i64 m/\Hid (lv (l.take m)=lv l)/\∃ k,wr=w.drewN k) (fun t _=>(intOf t).toNat)
 case atStart=>exact ⟨l.length,oK _,rfl,by unfold Hid;rw [List.take_length],0,rfl⟩
 case round =>
  obtain ⟨m,hm,rfl,HV,k,rfl⟩:=hrel;by_cases h0:m=0
  ·subst h0;have HF:Hid (a_ B w (.slice a 0 cap) []/\ah []/\lv []=lv l/\([]:List Nat).length<=l.length):=by
    refine ⟨?_,ah.nil,HV,Nat.zero_le _⟩;by_cases hn:l=[];·subst hn;exact HW
    ·obtain ⟨g,rfl,-,-⟩:=HG hn;exact HW.take 0 (Nat.zero_le _)
   go_wp2_with fail;go_ret;exact ⟨_,[],rfl,HF,k,rfl⟩
  ·have hne:l≠[]:=(by rintro rfl;simp at hm;omega);obtain ⟨g,rfl,hg1,vv⟩:=HG hne;obtain ⟨x,hx⟩:∃ x,l[m-1]?=some x:=⟨_,oB (by omega)⟩;obtain ⟨hcell,-⟩:=HW.get hx;have xV:(0:Int)<=(m:Int)-1:=(by omega);have sy:((m:Int)-1).toNat=m-1:=(by omega);have pg:1<=m:=(by omega);have Kz:(0:Int)<(m:Int):=(by omega);by_cases pG:x=0
   ·subst pG;have y8:Hid (lv (l.take (m-1))=lv l):=by
     unfold Hid;have:=iz hx;rw [show m-1+1=m by omega,Nat.mul_zero,Nat.add_zero,HV.out] at this;exact this.symm
    clear hx h0 hne;go_wp2_with fail;go_roundw
    case rel=>exact ⟨m-1,by omega,by first | rfl | (congr 1;omega),y8,k,rfl⟩
    case measure=>simp [intOf];omega
   ·have HF:Hid (a_ B w (.slice (some ⟨g,0,none⟩) m cap) (l.take m)/\ah (l.take m)/\lv (l.take m)=lv l/\(l.take m).length<=l.length):=by
     refine ⟨HW.take m hm,⟨HP.take m,?_⟩,HV,by rw [oG];omega⟩;intro y hy;rw [oG,Nat.min_eq_left hm,List.getElem?_take,if_pos (by omega),hx] at hy;cases hy;exact pG
    have hxb:((x:Int) == 0)=false:=(by rw [beq_eq_false_iff_ne];omega);clear hx h0 hne;go_wp2_with fail;go_ret;exact ⟨_,_,rfl,HF,k,rfl⟩
theorem Z0g (s:ByteArray) (j:Nat) (h:j<s.size):s.data.toList[j]?=some s[j]:=by
 have:j<s.data.toList.length:=by rw [<- Lib.size_eq];exact h
 rw [oB this];rfl
theorem Z12 (s:ByteArray) (w:World) (hd:s.data.toList.all bz=true) (hs:s.size<=400000) :
  Calls prog 130 #[.string s] w fun e w'=>∃ v l,e=.returned v/\Hid (a_ w.heap.size w' v l/\ah l/\lv l=aj 0 s.data.toList/\l.length<=s.size)/\aA w w':=by
 have HD:=oA hd;have hl:s.data.toList.length=s.size:=(Lib.size_eq s).symm;have HL:=oA hl;have HB0:Hid (aU w w.heap.size 3 1 (.slice none 0 0) pcRJ []):=a_.build (a_.nil _ _);have HS0:Hid (aM []/\([]:List Nat).length=0/\lv []=aj 0 (s.data.toList.drop (s.size-9*0))):=by
  refine ⟨aM.nil,rfl,?_⟩;rw [Nat.mul_zero,Nat.sub_zero,List.drop_eq_nil_of_le (by rw [HL.out];exact oK _)];rfl
 clear hl hd
 go_enter func130,ntmps130
 go_wp2_with fail
 go_loopw [3,0] (fun out t wr=>∃ (k e:Nat) (b:ByteArray) (l:List Nat),t=.string b/\b.size=e/\e<=s.size/\Hid (e=s.size-9*k)/\Hid (k<=s.size)/\Hid (b.data.toList=s.data.toList.take e)/\aA w wr/\Hid (aU wr w.heap.size 3 1 out pcRJ l)/\Hid (aM l/\l.length=k/\lv l=aj 0 (s.data.toList.drop (s.size-9*k)))) (fun _ t _=>match t with | .string b=>b.size | _=>0)
 case atStart=>exact ⟨0,s.size,s,[],rfl,rfl,by omega,rfl,Nat.zero_le _,by unfold Hid;rw [<- HL.out,List.take_length],by first | exact aA.refl _ | exact aA.drew _,HB0,HS0⟩
 case round =>
  obtain ⟨k,e,b,l,rfl,hbe,wQ,HE,zv,Hp,pV,HB,HS⟩:=hrel;obtain ⟨wo,rfl⟩:∃ wo:World,wo=wr:=⟨_,rfl⟩;clear HB0 HS0;by_cases h0:0<e
  ·have tO:(0:Int)<(b.size:Int):=(by omega);have MU:Hid (s.size-e=9*k):=(by have:=HE.out;unfold Hid;omega);have pI:Hid (b.data.toList.all bz=true):=(by unfold Hid;rw [Hp.out];exact mm (f:=0) HD e);obtain ⟨f,hf⟩:∃ f:Nat,(e<=9/\f=0)\/(9<e/\(e:Int)-9=(f:Int)):=by
    by_cases h9:e<=9;·exact ⟨0,.inl ⟨h9,rfl⟩⟩
    ·exact ⟨e-9,.inr ⟨by omega,by omega⟩⟩
   have BW:f<=e:=(by omega);have K5:e<=f+9:=(by omega);have Br:Hid (f=s.size-9*(k+1)):=(by have:=HE.out;unfold Hid;omega);have Gy:Hid (k+1<=s.size):=(by have:=HE.out;unfold Hid;omega);have HNB:Hid ((b.extract 0 f).size=f/\(b.extract 0 f).data.toList=s.data.toList.take f):=by
    have e1:(b.extract 0 f).data.toList=s.data.toList.take f:=by
     rw [Lib.extract_data,Hp.out,List.drop_zero,List.take_take,Nat.sub_zero,Nat.min_eq_left BW]
    refine ⟨?_,e1⟩;rw [Lib.size_eq,e1,oG,HL.out];omega
   rcases hf with ⟨h9,hf⟩ | ⟨h9,hf⟩
   case' inl =>
    have q9:¬ (9:Int)<(b.size:Int):=(by omega);have HEX:Hid (ByteArray.empty=b.extract 0 f):=by unfold Hid;rw [hf];simp
   case' inr =>
    have q9:(9:Int)<(b.size:Int):=(by omega);have q8:(b.size:Int)-9=(f:Int):=(by omega);have HEX:Hid (True):=trivial
   all_goals
    go_wp2_with fail
    go_loopw [6,5] (fun j n wr=>∃ (i v:Nat),f<=i/\i<=e/\j=.int .i64 i/\n=.int .i64 v/\v<=1000000000/\Hid (v=aj 0 ((b.data.toList.take i).drop f))/\Hid (aA wo wr)) (fun j _ _=>e-(intOf j).toNat)
    case atStart=>exact ⟨f,0,by omega,by omega,by first | rfl | (rw [hf];rfl) | go_num,rfl,by omega,by unfold Hid;rw [List.drop_eq_nil_of_le (by rw [oG];omega)];rfl,by first | exact aA.refl _ | exact aA.drew _⟩
    case round =>
     obtain ⟨i,v,xV,hi,rfl,rfl,hv,HV,zG⟩:=hrel;obtain ⟨wi,rfl⟩:∃ wi:World,wi=wr:=⟨_,rfl⟩;by_cases hlt:i<e
     ·have hib:i<b.size:=(by omega);have HCH:=oA (Z0g b i hib);have Ab:48<=b[i].toNat/\b[i].toNat<=57:=of_decide_eq_true (List.all_eq_true.1 pI _ (oE HCH));obtain ⟨z,hz⟩:∃ z:Nat,b[i].toNat=z+48:=⟨b[i].toNat-48,by omega⟩;have J3:z<=9:=(by omega);have y8:Hid (10*v+z=aj 0 ((b.data.toList.take (i+1)).drop f)):=by
       unfold Hid;rw [oH,HCH.out,List.drop_append_of_le_length (by rw [oG,<- Lib.size_eq];omega),jR,<- HV.out];show _=aj v [b[i]];rw [fE,iw,hz];omega
      have tx:10*v+z<=1000000000:=by
       have:=K3_ (mm (e:=i+1) (f:=f) pI) (by rw [List.length_drop,oG];omega);rw [<- y8.out] at this;omega
      have e1:(b[i].toNat:Int)=(z:Int)+48:=(by rw [hz];rfl);have e2:IntKind.u8.wrap ((z:Int)+48-48)=(z:Int):=(by rw [IntKind.wrap_u8];omega);have e3:IntKind.i64.wrap (z:Int)=(z:Int):=(by rw [IntKind.wrap_i64];omega);have FK:(i:Int)<(b.size:Int):=(by omega);clear Ab hz;go_wp2_with fail;go_roundw
      case rel=>exact ⟨i+1,10*v+z,by omega,by omega,by go_num,by go_num,tx,y8,by first | exact zG | exact zG.trans (aA.drew _)⟩
      case measure=>simp [intOf];omega
     ·obtain rfl:e=i:=(by omega);have HBi:=oA (aU.ext HB zG);have HEi2:=oA (aA.trans pV zG);have qI:w.heap.size<=wi.heap.size:=HEi2.size;have HLL:Hid (l.length<1000000):=(by have:=HS.2.1;unfold Hid;have:=zv.out;omega);have x8:Hid (aM (l++[v])/\(l++[v]).length=k+1/\lv (l++[v])=aj 0 (s.data.toList.drop (s.size-9*(k+1)))):=by
       have zd:b.data.toList.take e=s.data.toList.take e:=(by rw [Hp.out,List.take_take,Nat.min_self]);have zM:v<1000000000:=(by rw [HV.out];exact K3_ (mm pI _ _) (by rw [List.length_drop,oG];omega));refine ⟨HS.1.append (aM.cons zM aM.nil),by rw [oV,HS.out.2.1];rfl,?_⟩;rw [iT,HS.out.2.2,HS.out.2.1,eW,ck,Nat.mul_zero,Nat.add_zero,HV.out,zd,<- HE.out];have:=s5_ (l:=s.data.toList) (e:=e) (k:=k) (by rw [HL.out];exact wQ) (by rw [HL.out];exact MU) _ BW rfl;rw [this,<- Br.out]
      clear hlt;have FK:¬ (e:Int)<(b.size:Int):=(by omega);go_wp2_with (at_builtin;go_must (refine eM _ rfl _ _ 26 rfl w.heap.size 3 (.int .i64 0) 1 8 underlying26 gu rfl (by decide) u3 pcRJ l v #[.int .i64 v] 3 rfl HBi rfl rfl ?_ (fun _ _=>rfl) HLL (by decide) qI ?_))
      all_goals first | (simp [Value.oneCell'];done) | skip
      intro v' w5 o8 pS hb5 qu _;have HB5:=oA o8;have HX5:=oA (Below.trans HEi2 hb5);clear o8 pS hb5;go_wp2_with fail;go_roundw
      case rel=>exact ⟨k+1,f,b.extract 0 f,l++[v],by first | rfl | (rw [<- HEX.out]),HNB.1,by omega,Br,Gy,HNB.2,HX5,HB5,x8⟩
      case measure =>
       first
        | (show (b.extract 0 f).size<b.size;rw [HNB.out.1];omega)
        | (show ByteArray.empty.size<b.size;rw [HEX.out,HNB.out.1];omega)
  ·have tO:¬ (0:Int)<(b.size:Int):=(by omega);have HF:Hid (lv l=aj 0 s.data.toList):=by
    have:=HE.out;unfold Hid;rw [HS.out.2.2,show s.size-9*k=0 by omega,List.drop_zero]
   have HW:Hid (a_ w.heap.size wo u3 l):=HB.ownJ;have HT:=oA (mM w.heap.size l u3 wo HW HS.1);go_wp2_with fail;refine HT.mono ?_;rintro e' w' ⟨v',l',rfl,hr,kk,rfl⟩;have HR:=oA hr;clear hr HT;go_wp2_with fail;go_ret;refine ⟨v',l',rfl,⟨HR.out.out.1,HR.out.out.2.1,HR.out.out.2.2.1.trans HF,?_⟩,aA.draws pV _⟩;have:=HR.out.out.2.2.2;have:=HS.2.1;have:=zv.out;omega
theorem B3_ (p q:List Nat) (u v:Value) (w:World) (hu:eR w u p) (hv:eR w v q) (hp:ah p) (hq:ah q) (sv:p.length<=100000) (hlq:q.length<=100000) :
  oX 132 #[u,v] w (.int .i64 (bg (lv p) (lv q))):=by
 obtain ⟨a,ca,rfl,xQ,wT,qS⟩:=hu.open;obtain ⟨b,cb,rfl,hlb,wR,hcv⟩:=hv.open;have HP:=oA hp;have HQ:=oA hq;have HU:=oA qS;have HV:=oA hcv;clear hu hv qS hcv hp hq;by_cases hl:p.length=q.length
 ·have sW:((p.length:Int) != (q.length:Int))=false:=by simp [hl]
  have HL:=oA hl;have Ep:p.length<=q.length:=by omega
  have Eo:q.length<=p.length:=by omega
  clear hl
  go_enter func132,ntmps132
  go_wp2_with fail
  go_loopw [5] (fun i wr=>∃ y:Int,i=.int .i64 y/\y<p.length/\-2<y/\Hid (∃ k:Nat,y+1=k/\k<=p.length/\p.drop k=q.drop k)/\aA w wr) (fun i _=>(intOf i+1).toNat)
  case atStart=>exact ⟨_,rfl,by omega,by omega,⟨p.length,by omega,oK _,by rw [List.drop_length,HL.out,List.drop_length]⟩,aA.refl _⟩
  case round =>
   obtain ⟨y,rfl,tA,qz,HK,hE⟩:=hrel;obtain ⟨wo,rfl⟩:∃ wo:World,wo=wr:=⟨_,rfl⟩;by_cases h0:0<=y
   ·obtain ⟨k,rfl⟩:∃ k:Nat,y=k:=⟨y.toNat,by omega⟩;have AV:k<p.length:=(by omega);have AU:k<q.length:=(by omega);obtain ⟨x,hx⟩:∃ x,p[k]?=some x:=⟨_,oB AV⟩;obtain ⟨z,hz⟩:∃ z,q[k]?=some z:=⟨_,oB AU⟩;obtain ⟨ba,oa,rfl,-,qE⟩:=HU (by rintro rfl;simp at AV);obtain ⟨bb,ob,rfl,-,rq⟩:=HV (by rintro rfl;simp at AU);have g1:=hE.cell (qE k x hx);have g2:=hE.cell (rq k z hz);have HD:Hid (p.drop (k+1)=q.drop (k+1)):=by
     obtain ⟨k',e,-,h⟩:=HK.out;have:k'=k+1:=(by omega);rw [this] at h;exact h
    have HX:=oA hx;have HZ:=oA hz;clear hx hz qE rq;rcases Nat.lt_trichotomy x z with tw | tw | tw
    ·have hb:decide (x<z)=true:=oT (by omega);have HR:=oA (kW (c3_ HP.1 HQ.1 HX HZ HD tw));clear tw;go_wp2_with fail
     try (go_quiet (fail);go_wp2_with fail)
     go_ret;rw [HR.out];exact ⟨rfl,by first | exact hE | exact aA.draws hE _⟩
    ·subst tw;have hb:decide (x<x)=false:=oS (by omega);have HK2:Hid (∃ k':Nat,((k:Int)-1)+1=k'/\k'<=p.length/\p.drop k'=q.drop k'):=by
      refine ⟨k,by omega,by omega,?_⟩;show p.drop k=q.drop k;rw [List.drop_eq_getElem_cons AV,List.drop_eq_getElem_cons AU,HD.out];congr 1;have h1:=(oC.1 HX).2;have h2:=(oC.1 HZ).2;rw [h1,h2]
     go_wp2_with fail
     try (go_quiet (fail);go_wp2_with fail)
     try (go_quiet (fail);go_wp2_with fail)
     go_roundw
     case rel=>exact ⟨_,rfl,by omega,by omega,HK2,by first | exact aA.draws (aA.draws hE _) _ | exact aA.draws hE _ | exact hE⟩
     case measure=>simp [intOf]
    ·have hb:decide (x<z)=false:=oS (by omega);have hb2:decide (z<x)=true:=oT (by omega);have HR:=oA (mw (c3_ HQ.1 HP.1 HZ HX HD.symm tw));clear tw;go_wp2_with fail
     try (go_quiet (fail);go_wp2_with fail)
     try (go_quiet (fail);go_wp2_with fail)
     go_ret;rw [HR.out];exact ⟨rfl,by first | exact aA.draws (aA.draws hE _) _ | exact aA.draws hE _ | exact hE⟩
   ·have HR:Hid (bg (lv p) (lv q)=0):=by
     obtain ⟨k,e,-,h⟩:=HK.out;have:k=0:=(by omega);subst this;rw [List.drop_zero,List.drop_zero] at h;exact Z1J (by rw [h])
    go_wp2_with fail;go_ret;rw [HR.out];exact ⟨rfl,hE⟩
 ·have sW:((p.length:Int) != (q.length:Int))=true:=by simp;omega
  rcases Nat.lt_or_gt_of_ne hl with h | h
  ·have HR:=oA (kW (ah.lt_of_length HP.1 HQ h));have hb:decide (p.length<q.length)=true:=oT h;rw [HR.out];clear HR hl
   go_enter func132,ntmps132
   go_wp2_with fail;go_ret;exact ⟨rfl,aA.refl _⟩
  ·have HR:=oA (mw (ah.lt_of_length HQ.1 HP h));have hb:decide (p.length<q.length)=false:=oS (by omega);rw [HR.out];clear HR hl
   go_enter func132,ntmps132
   go_wp2_with fail;go_ret;exact ⟨rfl,aA.refl _⟩
theorem iE.over {p q L:List Nat} {i c:Nat} (h:iE p q i c L) (hp:aM p) (hq:aM q) (h1:p.length<i) (h2:q.length<i):c=0:=by
 have hv:=h.val;rw [List.take_of_length_le (by omega),List.take_of_length_le (by omega)] at hv;have a1:=eX hp;have a2:=eX hq;have a3:pB p.length<=pB (i-1):=w5_ (by omega);have a4:pB q.length<=pB (i-1):=w5_ (by omega);have a5:pB i=1000000000*pB (i-1):=by rw [<- ew];congr 1;omega
 false_or_by_contra
 have:=h.le;have hc:c=1:=by omega
 rw [hc,a5] at hv;omega
theorem Z31 (p q:List Nat) (u v:Value) (w:World) (hu:eR w u p) (hv:eR w v q) (hp:aM p) (hq:aM q) (sv:p.length<=100000) (hlq:q.length<=100000) :
  Calls prog 131 #[u,v] w fun e w'=>∃ r l,e=.returned r/\Hid (a_ w.heap.size w' r l/\aM l/\lv l=lv p+lv q/\l.length<=p.length+q.length+1)/\aA w w':=by
 obtain ⟨a,ca,rfl,xQ,wT,qS⟩:=hu.open;obtain ⟨b,cb,rfl,hlb,wR,hcv⟩:=hv.open;have HP:=oA hp;have HQ:=oA hq;have HU:=oA qS;have HV:=oA hcv;have HB0:Hid (aU w w.heap.size 3 1 (.slice none 0 0) pcRJ []):=a_.build (a_.nil _ _);have HS0:=oA (iE.start p q);clear hu hv qS hcv hp hq
 go_enter func131,ntmps131
 go_wp2_with fail
 go_loopw [5,6,7] (fun out s t wr=>∃ (i c:Nat) (L:List Nat),t=.int .i64 i/\s=.int .i64 c/\c<=1/\i<=p.length+q.length+1/\aA w wr/\Hid (aU wr w.heap.size 3 1 out pcRJ L)/\Hid (iE p q i c L)) (fun _ _ t _=>p.length+q.length+1-(intOf t).toNat)
 case atStart=>exact ⟨0,0,[],rfl,rfl,by omega,by omega,aA.refl _,HB0,HS0⟩
 case round =>
  obtain ⟨i,c,L,rfl,rfl,hc,hi,pV,HB,HS⟩:=hrel;obtain ⟨wo,rfl⟩:∃ wo:World,wo=wr:=⟨_,rfl⟩;clear HB0 HS0;have qI:w.heap.size<=wo.heap.size:=pV.size;have HLL:Hid (L.length<1000000):=by have:=HS.len;unfold Hid;omega
  have hbx:=lC HP i;have hby:=lC HQ i;have HNS:=oA (fun s hs=>HS.step HP HQ (s:=s) hs);by_cases hend:p.length<=i/\q.length<=i/\c=0
  ·obtain ⟨h1,h2,rfl⟩:=hend;have q1:decide (i<p.length)=false:=oS (by omega);have q2:decide (i<q.length)=false:=oS (by omega);have HF:=oA (HS.done h1 h2);have HO:=oA HB.ownJ;have HL:=oA HS.len;have HPC:=oA HS.pcs;go_wp2_with fail;go_ret;exact ⟨_,L,rfl,⟨HO,HPC,HF,by rw [HL.out];exact hi⟩,pV⟩
  ·have zx:Hid (i+1<=p.length+q.length+1):=by
    unfold Hid
    false_or_by_contra
    have e:i=p.length+q.length+1:=(by omega);exact hend ⟨by omega,by omega,HS.over HP HQ (by omega) (by omega)⟩
   have hib:=zx.out;by_cases hA:i<p.length
   ·by_cases hB:i<q.length
    ·obtain ⟨b1,o1,rfl,-,pK⟩:=HU (by rintro rfl;simp at hA);have g1:=pV.cell (pK i _ (oB hA));rw [<- jZ (oB hA)] at g1;obtain ⟨b2,o2,rfl,-,hc2⟩:=HV (by rintro rfl;simp at hB);have g2:=pV.cell (hc2 i _ (oB hB));rw [<- jZ (oB hB)] at g2;have q1:decide (i<p.length)=true:=oT hA;have q2:decide (i<q.length)=true:=oT hB;obtain ⟨s,hs⟩:=oc (c+bw p i+bw q i);have HNX:=oA (HNS s hs);obtain ⟨x,hx⟩:=oc (bw p i);obtain ⟨y,hy⟩:=oc (bw q i);rw [<- hx,<- hy] at hs;rw [<- hx] at hbx g1;rw [<- hy] at hby g2;obtain ⟨m,hm⟩:=oc (s%1000000000);obtain ⟨d,hd⟩:=oc (s / 1000000000);rw [<- hm,<- hd] at HNX;have e3:(s:Int).tmod 1000000000=(m:Int):=(by rw [Int.tmod_eq_emod_of_nonneg (by omega)];omega);have e4:(s:Int).tdiv 1000000000=(d:Int):=(by rw [Int.tdiv_eq_ediv_of_nonneg (by omega)];omega);have sN:d<=1:=(by omega);have hmb:m<1000000000:=(by omega);have Ef:s<2000000000:=(by omega);have e5:(c:Int)+(x:Int)+(y:Int)=(s:Int):=(by omega);clear hs hm hd hx hy hend;go_wp2_with (at_builtin;go_must (refine eM _ rfl _ _ 26 rfl w.heap.size 3 (.int .i64 0) 1 8 underlying26 gu rfl (by decide) u5 pcRJ L m #[.int .i64 m] 3 rfl HB rfl rfl ?_ (fun _ _=>rfl) HLL (by decide) qI ?_))
     all_goals first | (simp [Value.oneCell'];done) | skip
     intro v' w5 o8 pS hb5 qu _;have HB5:=oA o8;have HX5:=oA (Below.trans pV hb5);clear o8 pS hb5;go_wp2_with fail;go_roundw
     case rel=>exact ⟨i+1,d,_,by go_num,by first | rfl | go_num,by omega,hib,HX5,HB5,HNX⟩
     case measure=>simp [intOf];omega
    ·obtain ⟨b1,o1,rfl,-,pK⟩:=HU (by rintro rfl;simp at hA);have g1:=pV.cell (pK i _ (oB hA));rw [<- jZ (oB hA)] at g1;have q1:decide (i<p.length)=true:=oT hA;have q2:decide (i<q.length)=false:=oS hB;have ph:bw q i=0:=kC (by omega);obtain ⟨s,hs⟩:=oc (c+bw p i+bw q i);have HNX:=oA (HNS s hs);obtain ⟨x,hx⟩:=oc (bw p i);obtain ⟨y,hy⟩:=oc (bw q i);rw [<- hx,<- hy] at hs;rw [<- hx] at hbx g1;rw [<- hy] at hby
     obtain ⟨m,hm⟩:=oc (s%1000000000);obtain ⟨d,hd⟩:=oc (s / 1000000000);rw [<- hm,<- hd] at HNX;have e3:(s:Int).tmod 1000000000=(m:Int):=(by rw [Int.tmod_eq_emod_of_nonneg (by omega)];omega);have e4:(s:Int).tdiv 1000000000=(d:Int):=(by rw [Int.tdiv_eq_ediv_of_nonneg (by omega)];omega);have sN:d<=1:=(by omega);have hmb:m<1000000000:=(by omega);have Ef:s<2000000000:=(by omega);have e5:(c:Int)+(x:Int)=(s:Int):=(by omega);clear hs hm hd hx hy hend;go_wp2_with (at_builtin;go_must (refine eM _ rfl _ _ 26 rfl w.heap.size 3 (.int .i64 0) 1 8 underlying26 gu rfl (by decide) u5 pcRJ L m #[.int .i64 m] 3 rfl HB rfl rfl ?_ (fun _ _=>rfl) HLL (by decide) qI ?_))
     all_goals first | (simp [Value.oneCell'];done) | skip
     intro v' w5 o8 pS hb5 qu _;have HB5:=oA o8;have HX5:=oA (Below.trans pV hb5);clear o8 pS hb5;go_wp2_with fail;go_roundw
     case rel=>exact ⟨i+1,d,_,by go_num,by first | rfl | go_num,by omega,hib,HX5,HB5,HNX⟩
     case measure=>simp [intOf];omega
   ·by_cases hB:i<q.length
    ·obtain ⟨b2,o2,rfl,-,hc2⟩:=HV (by rintro rfl;simp at hB);have g2:=pV.cell (hc2 i _ (oB hB));rw [<- jZ (oB hB)] at g2;have q1:decide (i<p.length)=false:=oS hA;have q2:decide (i<q.length)=true:=oT hB;have pG:bw p i=0:=kC (by omega);obtain ⟨s,hs⟩:=oc (c+bw p i+bw q i);have HNX:=oA (HNS s hs);obtain ⟨x,hx⟩:=oc (bw p i);obtain ⟨y,hy⟩:=oc (bw q i);rw [<- hx,<- hy] at hs;rw [<- hx] at hbx;rw [<- hy] at hby g2;obtain ⟨m,hm⟩:=oc (s%1000000000);obtain ⟨d,hd⟩:=oc (s / 1000000000);rw [<- hm,<- hd] at HNX;have e3:(s:Int).tmod 1000000000=(m:Int):=(by rw [Int.tmod_eq_emod_of_nonneg (by omega)];omega);have e4:(s:Int).tdiv 1000000000=(d:Int):=(by rw [Int.tdiv_eq_ediv_of_nonneg (by omega)];omega);have sN:d<=1:=(by omega);have hmb:m<1000000000:=(by omega);have Ef:s<2000000000:=(by omega);have e5:(c:Int)+(y:Int)=(s:Int):=(by omega);clear hs hm hd hx hy hend;go_wp2_with (at_builtin;go_must (refine eM _ rfl _ _ 26 rfl w.heap.size 3 (.int .i64 0) 1 8 underlying26 gu rfl (by decide) u5 pcRJ L m #[.int .i64 m] 3 rfl HB rfl rfl ?_ (fun _ _=>rfl) HLL (by decide) qI ?_))
     all_goals first | (simp [Value.oneCell'];done) | skip
     intro v' w5 o8 pS hb5 qu _;have HB5:=oA o8;have HX5:=oA (Below.trans pV hb5);clear o8 pS hb5;go_wp2_with fail;go_roundw
     case rel=>exact ⟨i+1,d,_,by go_num,by first | rfl | go_num,by omega,hib,HX5,HB5,HNX⟩
     case measure=>simp [intOf];omega
    ·have q1:decide (i<p.length)=false:=oS hA;have q2:decide (i<q.length)=false:=oS hB;have pG:bw p i=0:=kC (by omega);have ph:bw q i=0:=kC (by omega);have pK:c=1:=(by omega);subst pK;obtain ⟨s,hs⟩:=oc (1+bw p i+bw q i);have HNX:=oA (HNS s hs);obtain ⟨x,hx⟩:=oc (bw p i);obtain ⟨y,hy⟩:=oc (bw q i);rw [<- hx,<- hy] at hs;rw [<- hx] at hbx;rw [<- hy] at hby
     obtain ⟨m,hm⟩:=oc (s%1000000000);obtain ⟨d,hd⟩:=oc (s / 1000000000);rw [<- hm,<- hd] at HNX;have e3:(s:Int).tmod 1000000000=(m:Int):=(by rw [Int.tmod_eq_emod_of_nonneg (by omega)];omega);have e4:(s:Int).tdiv 1000000000=(d:Int):=(by rw [Int.tdiv_eq_ediv_of_nonneg (by omega)];omega);have sN:d<=1:=(by omega);have hmb:m<1000000000:=(by omega);have Ef:s<2000000000:=(by omega);have e5:s=1:=(by omega);subst e5;have e6:m=1:=(by omega);have e7:d=0:=(by omega);subst e6 e7;clear hm hd hx hy hend hs;go_wp2_with (at_builtin;go_must (refine eM _ rfl _ _ 26 rfl w.heap.size 3 (.int .i64 0) 1 8 underlying26 gu rfl (by decide) u5 pcRJ L 1 #[.int .i64 1] 3 rfl HB rfl rfl ?_ (fun _ _=>rfl) HLL (by decide) qI ?_))
     all_goals first | (simp [Value.oneCell'];done) | skip
     intro v' w5 o8 pS hb5 qu _;have HB5:=oA o8;have HX5:=oA (Below.trans pV hb5);clear o8 pS hb5;go_wp2_with fail;go_roundw
     case rel=>exact ⟨i+1,0,_,by go_num,by first | rfl | go_num,by omega,hib,HX5,HB5,HNX⟩
     case measure=>simp [intOf];omega
theorem P9_ (p q:List Nat) (u v:Value) (w:World) (hu:eR w u p) (hv:eR w v q) (hp:ah p) (hq:ah q) (hle:lv q<=lv p) (sv:p.length<=100000) :
  Calls prog 133 #[u,v] w fun e w'=>∃ r l,e=.returned r/\Hid (a_ w.heap.size w' r l/\ah l/\lv l=lv p-lv q/\l.length<=p.length)/\aA w w':=by
 have hlq:=ah.length_le hq hp hle;obtain ⟨a,ca,rfl,xQ,wT,qS⟩:=hu.open;obtain ⟨b,cb,rfl,hlb,wR,hcv⟩:=hv.open;have HP:=oA hp;have HQ:=oA hq;have HU:=oA qS;have HV:=oA hcv;have HLE:=oA hle;have HB0:Hid (aU w w.heap.size 3 1 (.slice none 0 0) pcRJ []):=a_.build (a_.nil _ _);have HS0:=oA (jK.start p q);clear hu hv qS hcv hp hq hle
 go_enter func133,ntmps133
 go_wp2_with fail
 go_loopw [5,6,7] (fun out s t wr=>∃ (i c:Nat) (L:List Nat),t=.int .i64 i/\s=.int .i64 c/\c<=1/\i<=p.length/\aA w wr/\Hid (aU wr w.heap.size 3 1 out pcRJ L)/\Hid (jK p q i c L)) (fun _ _ t _=>p.length-(intOf t).toNat)
 case atStart=>exact ⟨0,0,[],rfl,rfl,by omega,by omega,aA.refl _,HB0,HS0⟩
 case round =>
  obtain ⟨i,c,L,rfl,rfl,hc,hi,pV,HB,HS⟩:=hrel;obtain ⟨wo,rfl⟩:∃ wo:World,wo=wr:=⟨_,rfl⟩;clear HB0 HS0;have qI:w.heap.size<=wo.heap.size:=pV.size;have HLL:Hid (L.length<1000000):=by have:=HS.len;unfold Hid;omega
  by_cases hA:i<p.length
  ·have hbx:=lC HP.1 i;have hby:=lC HQ.1 i;have HNS:=oA (fun x b' h1 h2 h3=>HS.step (x:=x) (b':=b') h1 h2 h3);obtain ⟨b1,o1,rfl,-,pK⟩:=HU (by rintro rfl;simp at hA);have g1:=pV.cell (pK i _ (oB hA));rw [<- jZ (oB hA)] at g1;obtain ⟨x,hx⟩:=oc (bw p i);obtain ⟨y,hy⟩:=oc (bw q i);rw [<- hx] at hbx g1 HNS;rw [<- hy] at hby HNS;have HY:=oA hy;clear hx hy pK;by_cases hB:i<q.length
   ·obtain ⟨b2,o2,rfl,-,hc2⟩:=HV (by rintro rfl;simp at hB);have g2:=pV.cell (hc2 i _ (oB hB));rw [<- jZ (oB hB),<- HY.out] at g2;clear hc2;have q2:decide (i<q.length)=true:=oT hB;by_cases hneg:(x:Int)-(c:Int)-(y:Int)<0
    ·obtain ⟨m,hm⟩:∃ m:Nat,(x:Int)-(c:Int)-(y:Int)+1000000000=(m:Int):=⟨((x:Int)-(c:Int)-(y:Int)+1000000000).toNat,by omega⟩;have HNX:=oA (HNS m 1 (by omega) (by omega) (by omega));have hmb:m<1000000000:=(by omega);go_wp2_with (at_builtin;go_must (refine eM _ rfl _ _ 26 rfl w.heap.size 3 (.int .i64 0) 1 8 underlying26 gu rfl (by decide) u5 pcRJ L m #[.int .i64 m] 3 rfl HB rfl rfl ?_ (fun _ _=>rfl) HLL (by decide) qI ?_))
     all_goals first | (simp [Value.oneCell'];done) | skip
     intro v' w5 o8 pS hb5 qu _;have HB5:=oA o8;have HX5:=oA (Below.trans pV hb5);clear o8 pS hb5;go_wp2_with fail;go_roundw
     case rel=>exact ⟨i+1,1,_,by go_num,by first | rfl | go_num,by omega,by omega,HX5,HB5,HNX⟩
     case measure=>simp [intOf];omega
    ·obtain ⟨m,hm⟩:∃ m:Nat,(x:Int)-(c:Int)-(y:Int)=(m:Int):=⟨((x:Int)-(c:Int)-(y:Int)).toNat,by omega⟩;have CU:¬ (m:Int)<0:=(by omega);have HNX:=oA (HNS m 0 (by omega) (by omega) (by omega));have hmb:m<1000000000:=(by omega);go_wp2_with (at_builtin;go_must (refine eM _ rfl _ _ 26 rfl w.heap.size 3 (.int .i64 0) 1 8 underlying26 gu rfl (by decide) u5 pcRJ L m #[.int .i64 m] 3 rfl HB rfl rfl ?_ (fun _ _=>rfl) HLL (by decide) qI ?_))
     all_goals first | (simp [Value.oneCell'];done) | skip
     intro v' w5 o8 pS hb5 qu _;have HB5:=oA o8;have HX5:=oA (Below.trans pV hb5);clear o8 pS hb5;go_wp2_with fail;go_roundw
     case rel=>exact ⟨i+1,0,_,by go_num,by first | rfl | go_num,by omega,by omega,HX5,HB5,HNX⟩
     case measure=>simp [intOf];omega
   ·have ph:y=0:=(by rw [HY.out];exact kC (by omega));subst ph;have q2:decide (i<q.length)=false:=oS hB;by_cases hneg:(x:Int)-(c:Int)<0
    ·obtain ⟨m,hm⟩:∃ m:Nat,(x:Int)-(c:Int)+1000000000=(m:Int):=⟨((x:Int)-(c:Int)+1000000000).toNat,by omega⟩;have HNX:=oA (HNS m 1 (by omega) (by omega) (by omega));have hmb:m<1000000000:=(by omega);go_wp2_with (at_builtin;go_must (refine eM _ rfl _ _ 26 rfl w.heap.size 3 (.int .i64 0) 1 8 underlying26 gu rfl (by decide) u5 pcRJ L m #[.int .i64 m] 3 rfl HB rfl rfl ?_ (fun _ _=>rfl) HLL (by decide) qI ?_))
     all_goals first | (simp [Value.oneCell'];done) | skip
     intro v' w5 o8 pS hb5 qu _;have HB5:=oA o8;have HX5:=oA (Below.trans pV hb5);clear o8 pS hb5;go_wp2_with fail;go_roundw
     case rel=>exact ⟨i+1,1,_,by go_num,by first | rfl | go_num,by omega,by omega,HX5,HB5,HNX⟩
     case measure=>simp [intOf];omega
    ·obtain ⟨m,hm⟩:∃ m:Nat,(x:Int)-(c:Int)=(m:Int):=⟨((x:Int)-(c:Int)).toNat,by omega⟩;have CU:¬ (m:Int)<0:=(by omega);have HNX:=oA (HNS m 0 (by omega) (by omega) (by omega));have hmb:m<1000000000:=(by omega);go_wp2_with (at_builtin;go_must (refine eM _ rfl _ _ 26 rfl w.heap.size 3 (.int .i64 0) 1 8 underlying26 gu rfl (by decide) u5 pcRJ L m #[.int .i64 m] 3 rfl HB rfl rfl ?_ (fun _ _=>rfl) HLL (by decide) qI ?_))
     all_goals first | (simp [Value.oneCell'];done) | skip
     intro v' w5 o8 pS hb5 qu _;have HB5:=oA o8;have HX5:=oA (Below.trans pV hb5);clear o8 pS hb5;go_wp2_with fail;go_roundw
     case rel=>exact ⟨i+1,0,_,by go_num,by first | rfl | go_num,by omega,by omega,HX5,HB5,HNX⟩
     case measure=>simp [intOf];omega
  ·obtain rfl:p.length=i:=(by omega);have HF:=oA (HS.done HP.1 hlq HLE);have HW:Hid (a_ w.heap.size wo u5 L):=HB.ownJ;have HT:=oA (mM w.heap.size L u5 wo HW HS.pcs);have HL:=oA HS.len;go_wp2_with fail;refine HT.mono ?_;rintro e' w' ⟨v',l',rfl,hr,kk,rfl⟩;have HR:=oA hr;clear hr HT;go_wp2_with fail;go_ret;exact ⟨v',l',rfl,⟨HR.out.out.1,HR.out.out.2.1,HR.out.out.2.2.1.trans HF.1,by rw [<- HL.out];exact HR.out.out.2.2.2⟩,aA.draws pV _⟩
theorem Z6I (a b:ByteArray):(a++b).data.toList=a.data.toList++b.data.toList:=by simp [ByteArray.data_append]
theorem l8_ {a b c:ByteArray} (h:a.data.toList++b.data.toList=c.data.toList):a++b=c:=by
 have e:=(Z6I a b).trans h;generalize a++b=x at *
 cases x;cases c;congr 1;exact Array.toList_inj.1 e
theorem D2_ {w w':World} (h:w.grownBy w' none):aA w w':=⟨h.os,h.tape,h.output,h.size,fun k hk=>h.block k hk (by simp)⟩
theorem Z0U {a b:Nat} (ha:a<1000000000) (hb:b<1000000000):a*b<=999999998000000001:=by
 have:a*b<=999999999*999999999:=Nat.mul_le_mul (by omega) (by omega);omega
theorem O0_ (p q:List Nat) (u v:Value) (w:World) (hu:eR w u p) (hv:eR w v q) (hp:aM p) (hq:aM q) (sv:p.length<=50000) (hlq:q.length<=50000) :
  Calls prog 129 #[u,v] w fun e w'=>∃ r l,e=.returned r/\Hid (a_ w.heap.size w' r l/\ah l/\lv l=lv p*lv q/\l.length<=p.length+q.length+1)/\aA w w':=by
 obtain ⟨a,ca,rfl,xQ,wT,qS⟩:=hu.open;obtain ⟨b,cb,rfl,hlb,wR,hcv⟩:=hv.open;have HP:=oA hp;have HQ:=oA hq;have HU:=oA qS;have HV:=oA hcv;obtain ⟨i0,hi,pJ,hz1,hz2⟩:=info_parts gu;have HI:=oA hi;have HZ0:=oA pJ;have HZ1:=oA hz1;have HZ2:=oA hz2;obtain ⟨n,hn⟩:∃ n:Nat,n=p.length+q.length+1:=⟨_,rfl⟩;have D1:(p.length:Int)+(q.length:Int)+1=(n:Int):=by omega
 have Ke:n<=100001:=by omega
 have hnp:p.length<=n:=by omega
 have CS:q.length<=n:=by omega
 have HN:=oA hn;clear hi pJ hz1 hz2 hu hv qS hcv hp hq hn
 go_enter func129,ntmps129
 go_wp2_with (at_make;refine wpList_make_full _ rfl _ _ 26 rfl w.heap.size 3 i0 (.int .i64 0) 1 underlying26 HI HZ0 HZ1 _ _ _ _ n rfl rfl rfl rfl ?c1 ?c2 ?c3 ?_)
 case c1=>rw [HZ2.out];omega
 case c2=>unfold maxLen;omega
 case c3=>exact oK _
 intro w1 hown oo;have hE1:=D2_ oo;have HO0:=oA (a_.made hown);have HS0:Hid (jj p q 0 (List.replicate n 0)):=by unfold Hid;rw [HN.out];exact jj.start p q
 clear hown oo;go_wp2_with fail
 go_loopw [6] (fun t wr=>∃ (i:Nat) (L:List Nat),i<=p.length/\t=.int .i64 i/\aA w wr/\Hid (a_ w.heap.size wr (.slice (some ⟨w.heap.size,0,none⟩) n n) L)/\Hid (jj p q i L)) (fun t _=>p.length-(intOf t).toNat)
 case atStart=>exact ⟨0,_,by omega,rfl,hE1,HO0,HS0⟩
 case round =>
  obtain ⟨i,L,hi,rfl,pV,HO,HS⟩:=hrel;obtain ⟨wo,rfl⟩:∃ wo:World,wo=wr:=⟨_,rfl⟩;clear HO0 HS0;by_cases hlt:i<p.length
  ·obtain ⟨x,hx⟩:∃ x,p[i]?=some x:=⟨_,oB hlt⟩;obtain ⟨ba,oa,rfl,-,qE⟩:=HU (by rintro rfl;simp at hlt);have GX:=oA (qE i x hx);have hxb:=HP.get hx;have HX:=oA hx;have HK0:=oA (HS.enter x);clear hx qE;go_wp2_with fail
   go_loopw [8,7] (fun t c wr=>∃ (k cc:Nat) (L:List Nat),k<=n/\t=.int .i64 k/\c=.int .i64 cc/\cc<1000000000/\aA w wr/\Hid (a_ w.heap.size wr (.slice (some ⟨w.heap.size,0,none⟩) n n) L)/\Hid (iI p q i x k cc L)) (fun t _ _=>n-(intOf t).toNat)
   case atStart=>exact ⟨0,0,L,by omega,rfl,rfl,by omega,pV,HO,HK0⟩
   case round =>
    obtain ⟨k,cc,L',hk,rfl,rfl,qX,tm,zA,vJ⟩:=hrel;obtain ⟨wi,rfl⟩:∃ wi:World,wi=wr:=⟨_,rfl⟩;have g1:=tm.cell GX.out;have GB:Hid (L'.length=n):=(by unfold Hid;rw [vJ.out.len,HN.out]);by_cases vC:k<q.length\/0<cc
    ·have HRM:Hid (i+k<n):=(by unfold Hid;rw [HN.out];exact vJ.room HP HQ HX vC);have hik:=HRM.out;obtain ⟨y,hy⟩:∃ y,L'[i+k]?=some y:=⟨_,oB (by have:=GB.out;omega)⟩;obtain ⟨g3,f3⟩:=zA.get hy;have hyb:=vJ.pcs.get hy;have qI:w.heap.size<=wi.heap.size:=tm.size;by_cases hkl:k<q.length
     ·obtain ⟨z,hz⟩:∃ z,q[k]?=some z:=⟨_,oB hkl⟩;obtain ⟨bb,ob,rfl,-,rq⟩:=HV (by rintro rfl;simp at hkl);have g2:=tm.cell (rq k z hz);have hzb:=HQ.get hz;have hm:=Z0U hxb hzb;obtain ⟨m,hmm⟩:=oZ (x*z);rw [hmm] at hm;have xM:(x:Int)*(z:Int)=(m:Int):=(by rw [<- hmm];exact (Int.natCast_mul _ _).symm);obtain ⟨t1,Ds⟩:=oc (y+cc);have vh:(y:Int)+(cc:Int)=(t1:Int):=(by omega);obtain ⟨c',qp⟩:=oc (cc+y+m);have D9:(t1:Int)+(m:Int)=(c':Int):=(by omega);obtain ⟨r,hr⟩:=oc (c'%1000000000);obtain ⟨d,hd⟩:=oc (c' / 1000000000);have qJ:(c':Int).tmod 1000000000=(r:Int):=(by rw [Int.tmod_eq_emod_of_nonneg (by omega)];omega);have rm:(c':Int).tdiv 1000000000=(d:Int):=(by rw [Int.tdiv_eq_ediv_of_nonneg (by omega)];omega);have sN:d<1000000000:=(by omega);have Cr:c'<1000000000000000000:=(by omega);have AI:r<1000000000:=(by omega);have Ea:t1<2000000000:=(by omega);have HK2:Hid (iI p q i x (k+1) d (L'.set (i+k) r)):=by
       unfold Hid;rw [hd];exact vJ.step hy hxb HQ (by rw [qp,jZ hz,hmm]) hr
      have HO2:=oA (zA.set (i+k) r);clear hz hy rq hmm qp hr hd Ds vC;go_wp2_with fail
      try (go_quiet (fail);go_wp2_with fail)
      go_roundw
      case rel=>exact ⟨k+1,d,_,by omega,by go_num,by first | rfl | go_num,sN,by first | exact Below.setCell tm (p:=⟨w.heap.size,i+k,none⟩) (oK _) _ | exact Below.setCell (aA.draws tm _) (p:=⟨w.heap.size,i+k,none⟩) (oK _) _,HO2,HK2⟩
      case measure=>simp [intOf];omega
     ·have vV:(0:Int)<(cc:Int):=(by omega);obtain ⟨t1,Ds⟩:=oc (y+cc);have vh:(y:Int)+(cc:Int)=(t1:Int):=(by omega);obtain ⟨r,hr⟩:=oc (t1%1000000000);obtain ⟨d,hd⟩:=oc (t1 / 1000000000);have qJ:(t1:Int).tmod 1000000000=(r:Int):=(by rw [Int.tmod_eq_emod_of_nonneg (by omega)];omega);have rm:(t1:Int).tdiv 1000000000=(d:Int):=(by rw [Int.tdiv_eq_ediv_of_nonneg (by omega)];omega);have sN:d<1000000000:=(by omega);have AI:r<1000000000:=(by omega);have Ea:t1<2000000000:=(by omega);have HK2:Hid (iI p q i x (k+1) d (L'.set (i+k) r)):=by
       unfold Hid;rw [hd];exact vJ.step hy hxb HQ (by rw [Ds,kC (by omega)];omega) hr
      have HO2:=oA (zA.set (i+k) r);clear hy hr hd Ds vC;go_wp2_with fail;go_roundw
      case rel=>exact ⟨k+1,d,_,by omega,by go_num,by first | rfl | go_num,sN,Below.setCell tm (p:=⟨w.heap.size,i+k,none⟩) (oK _) _,HO2,HK2⟩
      case measure=>simp [intOf];omega
    ·have vV:cc=0:=(by omega);subst vV;have hkl:¬ k<q.length:=fun h=>vC (.inl h);have HS2:=oA (vJ.leave (by omega) HX);clear vC;go_wp2_with fail;go_roundw
     case rel=>exact ⟨i+1,_,by omega,by go_num,tm,zA,HS2⟩
     case measure=>simp [intOf];omega
  ·obtain rfl:p.length=i:=(by omega);have HT:=oA (mM w.heap.size L _ wo HO HS.pcs);have HV:=HS.val;rw [List.take_length] at HV;have HV:=oA HV;have HL:=oA HS.len;go_wp2_with fail;refine HT.mono ?_;rintro e w5 ⟨r,l,rfl,hr,kk,rfl⟩;have HR:=oA hr;clear hr HT;go_wp2_with fail;go_ret;exact ⟨r,l,rfl,⟨HR.out.out.1,HR.out.out.2.1,HR.out.out.2.2.1.trans HV,by rw [<- HL.out];exact HR.out.out.2.2.2⟩,aA.draws pV _⟩
theorem Z2C {l:List Nat} (h:aM l):lv l<10^(9*l.length):=by rw [<- Z2T];exact eX h
theorem I8_ {l:List Nat} (h:aM l) (hl:l≠[]):(aE (lv l)).size<=9*l.length:=by
 rw [dn];exact kx _ _ (Z2C h) (by have:=List.length_pos_iff.2 hl;omega)
theorem ah.drop {l:List Nat} (h:ah l) {k:Nat} (hk:k<l.length):ah (l.drop k):=by
 refine ⟨h.1.drop k,fun x hx=>?_⟩;rw [List.length_drop,oU,show k+(l.length-k-1)=l.length-1 by omega] at hx;exact h.2 x hx
theorem o4_ (l:List Nat) (v:Value) (w:World) (h:eR w v l) (hc:ah l) (hlen:l.length<=100000) (ht:ae w) :
  oX 180 #[v] w (.string (aE (lv l))):=by
 obtain ⟨a,cap,rfl,hl,pk,hcell⟩:=h.open;have HX:=oA hcell;have HC:=oA hc;have HT:=oA ht;clear h hcell hc ht;by_cases hn:l=[]
 ·subst hn;have HF:Hid (aE (lv [])=⟨#[48]⟩):=by unfold Hid aE;rw [ck,Lib.decDigits_one (by omega)];rfl
  rw [HF.out]
  go_enter func180,ntmps180
  go_wp2_with fail;go_ret;exact ⟨rfl,aA.refl _⟩
 ·obtain ⟨b,off,rfl,hb,hcell⟩:=HX hn;have HCELL:=oA hcell;have hpos:0<l.length:=List.length_pos_iff.2 hn;have BT:((l.length:Int) == 0)=false:=by rw [beq_eq_false_iff_ne];omega
  obtain ⟨x0,pG⟩:∃ x,l[l.length-1]?=some x:=⟨_,oB (by omega)⟩;have g0:=hcell _ _ pG;have hx0b:=HC.1.get pG;have xV:(0:Int)<=(l.length:Int)-1:=by omega
  have sy:((l.length:Int)-1).toNat=l.length-1:=by omega
  have H1:=oA (mA (x0:Int) w (by omega) (by omega) HT);have HD0:Hid (aB (x0:Int)=aE (lv (l.drop (l.length-1)))):=by
   unfold Hid;rw [c_ _ (by omega),eu pG,List.drop_eq_nil_of_le (by omega),ck];congr 1
  clear hcell HX pG hn
  go_enter func180,ntmps180
  go_wp2_with fail;refine H1.mono ?_;rintro e w1 ⟨rfl,hE1⟩;have HE1:=oA hE1;rw [HD0.out];clear hE1 g0 H1;go_wp2_with fail
  go_loopw [4,3] (fun t s wr=>∃ (k:Nat),t=.int .i64 ((k:Int)-1)/\k+1<=l.length/\s=.string (aE (lv (l.drop k)))/\Hid (aA w wr)) (fun t _ _=>(intOf t+1).toNat)
  case atStart=>exact ⟨l.length-1,by congr 1;omega,by omega,rfl,by first | exact HE1 | exact HE1.trans (aA.drew _)⟩
  case round =>
   obtain ⟨k1,rfl,hk,rfl,HE⟩:=hrel;obtain ⟨wo,rfl⟩:∃ wo:World,wo=wr:=⟨_,rfl⟩;by_cases rJ:0<k1
   ·obtain ⟨k,rfl⟩:∃ k,k1=k+1:=⟨k1-1,by omega⟩;have e1:((k+1:Nat):Int)-1=(k:Int):=(by omega);rw [e1];obtain ⟨x,hx⟩:∃ x,l[k]?=some x:=⟨_,oB (by omega)⟩;have g1:=HE.cell (HCELL k x hx);have hxb:=HC.1.get hx;have HX:=oA hx;have H2:=oA (mA (x:Int) wo (by omega) (by omega) (HT.ext HE));have hkl:k<l.length:=(by omega);have HSZ:Hid ((aE (lv (l.drop (k+1)))).size<=900000):=by
     unfold Hid;have h1:=I8_ (HC.1.drop (k+1)) (by intro e;have:=congrArg List.length e;rw [List.length_drop] at this;simp at this;omega);rw [List.length_drop] at h1;omega
    have rz:Hid (Lib.decDigits (lv (l.drop k))=Lib.decDigits (lv (l.drop (k+1)))++iX x):=by
     unfold Hid;rw [eu hx];refine Z0v ?_ hxb;have h1:=(HC.drop (k:=k+1) (by omega)).ge (by intro e;have:=congrArg List.length e;rw [List.length_drop] at this;simp at this;omega);have:=kA ((l.drop (k+1)).length-1);omega
    clear hx e1;obtain ⟨S,hS⟩:=oc (aE (lv (l.drop (k+1))));rw [<- hS] at HSZ |-;have Gg:Hid (S.data.toList=Lib.decDigits (lv (l.drop (k+1)))):=(by unfold Hid;rw [hS,fM]);have hsz:=HSZ.out;clear hS;go_wp2_with fail;refine p_ H2 (HE.trans) ?_;intro w2 HE2;clear g1 H2;go_wp2_with fail;have Db:Hid ((aB (x:Int)).data.toList=Lib.decDigits x):=by
     unfold Hid;rw [c_ _ (by omega),fM];rfl
    have BK:Hid ((Lib.decDigits x).length<=9):=by
     unfold Hid;rw [Lib.decDigits_length];exact kx x 9 (by rw [show (10:Nat)^9=1000000000 by decide];exact hxb) (by omega)
    go_loopw [5] (fun t wr=>∃ (j:Nat) (b5:ByteArray),t=.string b5/\j<=9/\b5.size<=9/\Hid (b5.data.toList=List.replicate j 48++Lib.decDigits x)/\Hid (aA w2 wr)) (fun t _=>match t with | .string b=>9-b.size | _=>0)
    case atStart=>exact ⟨0,_,rfl,by omega,by rw [Lib.size_eq,Db.out];exact BK,by unfold Hid;rw [Db.out];rfl,by first | exact aA.refl _ | exact aA.drew _⟩
    case round =>
     obtain ⟨j,b5,rfl,hj,hb5,HBD,HEX⟩:=hrel;obtain ⟨wi,rfl⟩:∃ wi:World,wi=wr:=⟨_,rfl⟩;by_cases hlt:b5.size<9
     ·have vp:(b5.size:Int)<9:=(by omega);have z1:¬ 9223372036854775807<1+b5.size:=(by omega);have MJ:Hid (j+1<=9):=by
       unfold Hid;have:=congrArg List.length HBD;rw [<- Lib.size_eq,oV,List.length_replicate] at this;omega
      have hnj:=MJ.out;have HBN:Hid (((⟨#[48]⟩:ByteArray)++b5).data.toList=List.replicate (j+1) 48++Lib.decDigits x):=by
       unfold Hid;rw [Z6I,HBD.out,List.replicate_succ];rfl
      have HBS:Hid (((⟨#[48]⟩:ByteArray)++b5).size=b5.size+1):=by
       unfold Hid;rw [Lib.size_eq,Z6I,oV,Lib.size_eq];show 1+_=_;omega
      go_wp2_with fail;go_roundw
      case rel=>exact ⟨j+1,_,rfl,hnj,by rw [HBS.out];omega,HBN,by first | exact HEX | exact HEX.trans (aA.drew _)⟩
      case measure=>show 9-((⟨#[48]⟩:ByteArray)++b5).size<9-b5.size;rw [HBS.out];omega
     ·have vp:¬ (b5.size:Int)<9:=(by omega);have z1:¬ 9223372036854775807<S.size+b5.size:=(by omega);have Gm:Hid (b5.data.toList=iX x):=by
       unfold Hid iX;rw [HBD.out];have:=congrArg List.length HBD;rw [<- Lib.size_eq,oV,List.length_replicate] at this;congr 2;omega
      have x8:Hid (S++b5=aE (lv (l.drop k))):=by
       unfold Hid;exact l8_ (by rw [fM,rz.out,<- Gg.out,<- Gm.out])
      have HEW:=oA (HE2.trans HEX);go_wp2_with fail;go_roundw
      case rel=>exact ⟨k,by first | rfl | go_num,by omega,by rw [x8.out],HEW⟩
      case measure=>first | (simp [intOf];done) | (simp [intOf];omega)
   ·obtain rfl:k1=0:=(by omega);go_wp2_with fail;go_ret;exact ⟨by rw [List.drop_zero];rfl,HE⟩
def dM (b:Bool) (u:Nat):Int:=if b then -(u:Int) else u
theorem mK (B:Nat) (neg:Bool) (l:List Nat) (v:Value) (w:World) (h:a_ B w v l) (hp:aM l) (hlen:l.length<=100000) (ht:ae w) :
  oX 127 #[.bool neg,v] w (.string (aB (dM neg (lv l)))):=by
 have H1:=oA (mM B l v w h hp);have HT:=oA ht;clear h ht;cases neg with
 | false =>
  have HR:Hid (aB (dM false (lv l))=aE (lv l)):=by
   unfold Hid dM;rw [if_neg (by decide),c_ _ (by omega)];congr 1
  rw [HR.out]
  go_enter func127,ntmps127
  go_wp2_with fail;refine H1.mono ?_;rintro e w1 ⟨v',l',rfl,hr,kk,rfl⟩;have HRR:=oA hr;have H2:=oA (o4_ l' v' (w.drewN kk) hr.out.1.at hr.out.2.1 (by have:=hr.out.2.2.2;omega) (HT.ext (aA.draws (aA.refl _) _)));rw [hr.out.2.2.1] at H2;clear hr H1;go_wp2_with fail;refine p_ H2 (aA.trans (aA.draws (aA.refl _) _)) ?_;intro w2 HE2;clear H2;go_wp2_with fail;go_ret;exact ⟨rfl,HE2⟩
 | true =>
  have HZ:Hid (lv l=0->aB (dM true (lv l))=aE (lv l)):=by
   intro e;unfold dM;rw [if_pos rfl,e,c_ _ (by omega)];congr 1
  have HN:Hid (lv l≠0->(⟨#[45]⟩:ByteArray)++aE (lv l)=aB (dM true (lv l))):=by
   intro e;refine l8_ ?_;unfold dM;rw [if_pos rfl,kj _ (by omega),show (-(lv l:Int)).natAbs=lv l by omega];rfl
  have HSZ:Hid ((aE (lv l)).size<=900000):=by
   unfold Hid;by_cases hl:l=[];·subst hl;rw [ck,dn,Lib.nDigits_small (by omega)];omega
   ·have:=I8_ hp hl;omega
  go_enter func127,ntmps127
  go_wp2_with fail;refine H1.mono ?_;rintro e w1 ⟨v',l',rfl,hr,kk,rfl⟩;have H2:=oA (o4_ l' v' (w.drewN kk) hr.out.1.at hr.out.2.1 (by have:=hr.out.2.2.2;omega) (HT.ext (aA.draws (aA.refl _) _)));obtain ⟨a,c,rfl,h1,h2,-⟩:=hr.out.1.form;have hv:=hr.out.2.2.1;have hz:=hr.out.2.1.zero;rw [hv] at H2 hz;have HV:=oA hv;have HL0:Hid (l'.length=0↔lv l=0):=by unfold Hid;rw [hz,List.length_eq_zero_iff]
  clear hr H1 hv hz;by_cases h0:l'.length=0
  ·have e0:=HL0.1 h0;have q:¬ (0:Int)<(l'.length:Int):=(by omega);have HZ2:=oA (HZ e0);clear e0 h0;go_wp2_with fail;refine p_ H2 (aA.trans (aA.draws (aA.refl _) _)) ?_;intro w2 HE2;clear H2;go_wp2_with fail;go_ret;exact ⟨by first | rfl | (rw [HZ2.out];rfl) | (rw [<- HZ2.out];rfl),HE2⟩
  ·have e0:lv l≠0:=fun e=>h0 (HL0.2 e);have q:(0:Int)<(l'.length:Int):=by omega
   have HZ2:=oA (HN e0);have hsz:=HSZ.out;have z1:¬ 9223372036854775807<1+(aE (lv l)).size:=(by omega);clear e0 h0;go_wp2_with fail;refine p_ H2 (aA.trans (aA.draws (aA.refl _) _)) ?_;intro w2 HE2;clear H2;go_wp2_with fail;go_ret;exact ⟨by first | rfl | (rw [HZ2.out];rfl) | (rw [<- HZ2.out];rfl),HE2⟩
theorem G8_ (w:World) {ops:Array Oper} {rest:List Oper} {o:Oper} {a:Act} {Q:Exit->Act->World->Prop} (pq:o.guard=none)
  (s x:Operand) (ho:o.op=Op.call { callee:=Callee.builtin Builtin.append,args:=#[s,x],argTypes:=#[26,26] }) (base:Nat)
  (v y:Value) (xs ys:List Nat) (hs:a.eval s=v) (hx:a.eval x=y) (hB:a_ base w v xs) (hY:eR w y ys) (hlen:xs.length+ys.length<1000000) (o6:base<=w.heap.size)
  (h:∀ v' w',a_ base w' v' (xs++ys)->Below base w w'->wpList prog ops Q rest (a.put o.dst v') w') :
  wpList prog ops Q (o::rest) a w:=by
 obtain ⟨ad,c,rfl,h1,h2,h3,hc⟩:=aH.open hY;obtain ⟨i0,hi,hz,o9,hby⟩:=info_parts gu;cases ad with
 | none =>
  have h0:ys=[]:=by have:=h3 rfl;exact List.eq_nil_of_length_eq_zero (by omega)
  subst h0;obtain rfl:c=0:=h3 rfl;refine wpList_append_own_none pq s x 26 ho base 3 i0 1 underlying26 hi _ xs.length (xs.map pcJ) hs hB hx (h _ _ (by rw [List.append_nil];exact hB) (Below.refl _ _))
 | some ad =>
  have xH:∀ (j:Nat) (u:Value),(ys.map pcJ)[j]?=some u->w.cell? (ad.add j)=some u:=by
   intro j u hu;rw [oF] at hu;cases hj:ys[j]? with
   | none=>simp [hj] at hu
   | some z =>
    simp [hj] at hu;subst hu;obtain ⟨b,off,pZ,rP,hcell⟩:=hc (by omega) (by intro e;simp [e] at hj);cases pZ;obtain ⟨us,_,hr,hcl⟩:=hcell j z hj;have:=hcl 0 (by omega);rw [hr] at this;rw [show (⟨b,off,none⟩:Addr).add j=⟨b,off+(j*1+0),none⟩ by unfold Addr.add;split <;> simp_all];simpa using this
  refine wpList_append_own _ pq s x 26 ho base 3 i0 (.int .i64 0) 1 8 underlying26 hi hz o9 hby rfl (by decide) _ _ _ hs hB ad ys.length c (ys.map pcJ) hx (by simp) xH ?_ (by unfold maxLen;omega) (by omega) o6 ?_
  ·intro u hu;obtain ⟨z,-,rfl⟩:=List.mem_map.1 hu;rfl
  ·intro v' w' qO oo _;refine h v' w' ?_ ⟨oo.os,oo.tape,oo.output,oo.size,fun b hb=>oo.block b (by omega) ?_⟩;·unfold a_;rw [oV,List.map_append];exact qO
   ·intro e;have:=(hB.lt b e.symm).1;omega
theorem Z5i {u v:Nat} (h:u<=v):bg u v<=0:=by
 unfold bg;split;·omega
 ·split <;> omega
theorem Z3N {u v:Nat} (h:¬ u<=v):¬ bg u v<=0:=by rw [mw (by omega)];omega
theorem a_.lit (w:World) (m:Nat):a_ w.heap.size (w.alloc (.cells #[.int .i64 m] 3)) (.slice (some ⟨w.heap.size,0,none⟩) 1 1) [m]:=by
 have:=World.ownsRow_lit (e:=3) (size:=1) w #[Value.int .i64 m] 1 (oK _) (by unfold maxLen;omega) rfl;exact this
theorem h1_ (p q:List Nat) (u v:Value) (w:World) (hu:eR w u p) (hv:eR w v q) (hp:aM p) (hq:ah q) (h0:0<lv q) (sv:p.length<=20000) (hlq:q.length<=20000) :
  Calls prog 143 #[u,v] w fun e w'=>∃ r1 r2 l1 l2,e=.returned (.tuple #[r1,r2])/\Hid (a_ w.heap.size w' r1 l1/\ah l1/\lv l1=lv p / lv q/\l1.length<=p.length/\a_ w.heap.size w' r2 l2/\ah l2/\lv l2=lv p%lv q/\l2.length<=q.length)/\aA w w':=by
 obtain ⟨a,ca,rfl,xQ,wT,qS⟩:=hu.open;have HP:=oA hp;have HQ:=oA hq;have HU:=oA qS;have HV:=oA hv;have H0:=oA h0;obtain ⟨i0,hi,pJ,hz1,hz2⟩:=info_parts gu;have HI:=oA hi;have HZ0:=oA pJ;have HZ1:=oA hz1;have HZ2:=oA hz2;obtain ⟨n,hn⟩:∃ n:Nat,n=p.length:=⟨_,rfl⟩;rw [<- hn] at xQ sv |-;have HN:=oA hn;clear hi pJ hz1 hz2 hu hv qS hp hq hn h0
 go_enter func143,ntmps143
 go_wp2_with (at_make;refine wpList_make_full _ rfl _ _ 26 rfl w.heap.size 3 i0 (.int .i64 0) 1 underlying26 HI HZ0 HZ1 _ _ _ _ n rfl rfl rfl rfl ?c1 ?c2 ?c3 ?_)
 case c1=>rw [HZ2.out];omega
 case c2=>unfold maxLen;omega
 case c3=>exact oK _
 intro w1 hown oo;have hE1:=D2_ oo;have Gd:Hid (w.heap.size+1<=w1.heap.size):=by
  rcases hown.2 with ⟨e,_⟩ | ⟨g',cap',cur,e,hb,hg,_⟩
  ·cases e
  ·simp only [Value.slice.injEq,Option.some.injEq,Addr.mk.injEq] at e;obtain ⟨⟨rfl,-,-⟩,-,-⟩:=e;exact (Array.getElem?_eq_some_iff.1 hg).1
 have HO0:=oA (a_.made hown);have HS0:Hid (gW p q n (List.replicate n 0) (lv [])):=by unfold Hid;rw [HN.out];exact gW.start p q H0
 have yY:Hid (a_ (w.heap.size+1) w1 (.slice none 0 0) []/\ah []):=⟨a_.nil _ _,ah.nil⟩;clear hown oo;go_wp2_with fail
 go_loopw [8,7] (fun t v7 wr=>∃ (k:Nat) (L R:List Nat),k<=n/\t=.int .i64 ((k:Int)-1)/\aA w wr/\w.heap.size+1<=wr.heap.size/\Hid (a_ w.heap.size wr (.slice (some ⟨w.heap.size,0,none⟩) n n) L)/\Hid (a_ (w.heap.size+1) wr v7 R/\ah R)/\Hid (gW p q k L (lv R))) (fun t _ _=>(intOf t+1).toNat)
 case atStart=>exact ⟨n,_,[],by omega,rfl,hE1,Gd,HO0,yY,HS0⟩
 case round =>
  obtain ⟨k1,L,R,hk,rfl,pV,hsz,HO,HR,HS⟩:=hrel;obtain ⟨wo,rfl⟩:∃ wo:World,wo=wr:=⟨_,rfl⟩;clear HO0 HS0 yY;by_cases rJ:0<k1
  ·obtain ⟨k,rfl⟩:∃ k,k1=k+1:=⟨k1-1,by omega⟩;have e1:((k+1:Nat):Int)-1=(k:Int):=(by omega);rw [e1];obtain ⟨x,hx⟩:∃ x,p[k]?=some x:=⟨_,oB (by have:=HN.out;omega)⟩;obtain ⟨ba,oa,rfl,-,qE⟩:=HU (by rintro rfl;simp at hx);have g1:=pV.cell (qE k x hx);have hxb:=HP.get hx;obtain ⟨A2,Hl,BJ⟩:=HS.step hx HP rfl;obtain ⟨d,hd⟩:=oc ((x+1000000000*lv R) / lv q);rw [<- hd] at A2 Hl BJ;have HST:=oA A2;have HDM:=oA BJ;have HD:=oA hd;have HRL:Hid (R.length<=q.length):=ah.length_le HR.2 HQ (Nat.le_of_lt HS.lt);have hrl:=HRL.out;have hkn:k<n:=(by omega);have HLL:Hid (L.length=n):=(by unfold Hid;rw [HS.out.len,HN.out]);clear hx qE A2 BJ hd e1;have DR:Hid (eR (wo.alloc (.cells #[.int .i64 x] 3)) u7 R):=(HR.1.at).ext (aA.alloc _ _);have HLIT:=oA (a_.lit wo x);go_wp2_with (at_builtin;go_must (refine G8_ _ rfl _ _ rfl wo.heap.size _ u7 [x] R rfl rfl HLIT DR (by simp;omega) (aA.alloc _ _).size ?_));intro v5 w5 vZ hb5;have HE5:Hid (aA wo w5):=Below.trans (aA.alloc wo (.cells #[.int .i64 x] 3)) hb5;have HT5:=oA (mM wo.heap.size ([x]++R) v5 w5 vZ (aM.cons hxb HR.2.1));clear vZ hb5 HLIT DR g1;go_wp2_with fail;refine HT5.mono ?_;rintro e w6 ⟨v6,R1,rfl,hr,kk,rfl⟩;have HO6:=oA hr.out.1;have HC6:=oA hr.out.2.1;have BN:lv R1=x+1000000000*lv R:=hr.out.2.2.1;have HV6:=oA BN;have M3:R1.length<=20001:=(by have:=hr.out.2.2.2;simp at this;omega);have HE6:Hid (aA wo (w5.drewN kk)):=aA.draws HE5 _;obtain ⟨w6,zJ⟩:=oc (w5.drewN kk);rw [<- zJ] at HO6 HE6 |-;have Gk:Hid (∀ m,lv q*m<=lv R1↔m<=d):=by
    intro m;rw [BN,HD.out,Nat.le_div_iff_mul_le H0.out,Nat.mul_comm]
   clear hr HT5 BN zJ HE5;go_wp2_with fail;have Ih:d<=999999999:=by omega
   go_loopw [9,10] (fun lo hi wr=>∃ (x1 x2:Nat),lo=.int .i64 x1/\hi=.int .i64 x2/\x1<=d/\d<=x2/\x2<=999999999/\Hid (aA w6 wr)) (fun lo hi _=>(intOf hi-intOf lo).toNat)
   case atStart=>exact ⟨0,999999999,rfl,rfl,by omega,Ih,by omega,by first | exact aA.refl _ | exact aA.drew _⟩
   case round =>
    obtain ⟨x1,x2,rfl,rfl,h1,h2,h3,qe⟩:=hrel;obtain ⟨wi,rfl⟩:∃ wi:World,wi=wr:=⟨_,rfl⟩;have HEWI:=oA (aA.trans pV (aA.trans HE6 qe));by_cases hlt:x1<x2
    ·have vp:(x1:Int)<(x2:Int):=(by omega);obtain ⟨m,hm⟩:=oc ((x1+x2+1) / 2);have xM:((x1:Int)+(x2:Int)+1).tdiv 2=(m:Int):=(by rw [Int.tdiv_eq_ediv_of_nonneg (by omega)];omega);have hm1:x1<m:=(by omega);have wO:m<=x2:=(by omega);clear hm;have HX0:Hid (aA wi (wi.alloc (.cells #[.int .i64 m] 3))):=aA.alloc _ _;have HTM:=oA (O0_ q [m] v (.slice (some ⟨wi.heap.size,0,none⟩) 1 1) (wi.alloc (.cells #[.int .i64 m] 3)) (HV.ext (HEWI.trans HX0)) (a_.lit wi m).at HQ.1 (aM.cons (by omega) aM.nil) (by omega) (by simp));go_wp2_with fail;refine HTM.mono ?_;rintro e w7 ⟨r7,l7,rfl,xC,qy⟩;have HR7:=oA xC;have HX7:=oA (HX0.trans qy);have M0:l7.length<=40000:=(by have:=xC.out.2.2.2;simp at this;omega);have BM:lv l7=lv q*m:=(by rw [xC.out.2.2.1,eW,ck,Nat.mul_zero,Nat.add_zero]);have HOR:=oA (B3_ l7 R1 r7 v6 w7 xC.out.1.at ((HO6.at).ext (qe.trans HX7)) xC.out.2.1 HC6 (by omega) (by omega));rw [BM] at HOR;clear xC qy BM HTM HX0;go_wp2_with fail;refine HOR.mono ?_;rintro e w8 ⟨rfl,va⟩;have HX8:=oA (qe.trans (HX7.trans va));clear va HOR;by_cases hc:lv q*m<=lv R1
     ·have hmd:=(Gk m).1 hc;have q1:bg (lv q*m) (lv R1)<=0:=Z5i hc;obtain ⟨cm,hcm⟩:=oc (bg (lv q*m) (lv R1));rw [<- hcm] at q1 |-;clear hc hcm;go_wp2_with fail;go_roundw
      case rel=>exact ⟨m,x2,by first | rfl | go_num,rfl,hmd,h2,h3,HX8⟩
      case measure=>simp [intOf];omega
     ·have hmd:d<m:=by
       false_or_by_contra
       exact hc ((Gk m).2 (by omega))
      have q1:¬ bg (lv q*m) (lv R1)<=0:=Z3N hc;obtain ⟨cm,hcm⟩:=oc (bg (lv q*m) (lv R1));rw [<- hcm] at q1 |-;clear hc hcm;go_wp2_with fail;go_roundw
      case rel=>exact ⟨x1,m-1,rfl,by first | rfl | go_num | (congr 1;omega),h1,by omega,by omega,HX8⟩
      case measure=>simp [intOf];omega
    ·have vp:¬ (x1:Int)<(x2:Int):=(by omega);obtain rfl:d=x1:=(by omega);obtain rfl:d=x2:=(by omega);have qI:w.heap.size+1<=wi.heap.size:=oJ hsz (oJ HE6.size qe.size);have HOI:=oA (HO.ext (HE6.trans qe));obtain ⟨y,hy⟩:∃ y,L[k]?=some y:=⟨_,oB (by have:=HLL.out;omega)⟩;obtain ⟨g3,f3⟩:=HOI.get hy;have HO2:=oA (HOI.set k d);have HR2:Hid (a_ wo.heap.size (wi.setCell ⟨w.heap.size,k,none⟩ (.int .i64 d)) v6 R1):=ownsRow_setCell_below (HO6.ext qe) (a:=⟨w.heap.size,k,none⟩) (by show w.heap.size<wo.heap.size;omega) _;have HX2:Hid (aA w (wi.setCell ⟨w.heap.size,k,none⟩ (.int .i64 d))):=Below.setCell HEWI (p:=⟨w.heap.size,k,none⟩) (oK _) _;have vj:w.heap.size+1<=(wi.setCell ⟨w.heap.size,k,none⟩ (.int .i64 d)).heap.size:=(by simp [World.setCell];omega);obtain ⟨w9,rG⟩:=oc (wi.setCell ⟨w.heap.size,k,none⟩ (.int .i64 d));by_cases hd0:0<d
     ·have LA:(0:Int)<(d:Int):=(by omega);clear hy;rw [<- rG] at HO2 HR2 HX2 vj;have HW9:=oA rG;clear rG
      go_upto_region 14 with fail
      rw [<- HW9.out];have HX0:Hid (aA w9 (w9.alloc (.cells #[.int .i64 d] 3))):=aA.alloc _ _;have HTM:=oA (O0_ q [d] v (.slice (some ⟨w9.heap.size,0,none⟩) 1 1) (w9.alloc (.cells #[.int .i64 d] 3)) (HV.ext (HX2.trans HX0)) (a_.lit w9 d).at HQ.1 (aM.cons (by omega) aM.nil) (by omega) (by simp));clear g3 f3;go_wp2_with fail;refine HTM.mono ?_;rintro e w7 ⟨r7,l7,rfl,xC,qy⟩;have HX7:=oA (HX0.trans qy);have BM:lv l7=lv q*d:=(by rw [xC.out.2.2.1,eW,ck,Nat.mul_zero,Nat.add_zero]);have HMI:=oA (P9_ R1 l7 v6 r7 w7 ((HR2.at).ext HX7) xC.out.1.at HC6 xC.out.2.1 (by rw [BM];exact (Gk d).2 (oK _)) (by omega));rw [BM] at HMI;clear xC qy BM HTM HX0;go_wp2_with fail;refine HMI.mono ?_;rintro e w8 ⟨r8,l8,rfl,Dv,va⟩;have HX8:=oA (HX7.trans va);have HF:Hid (a_ (w.heap.size+1) w8 r8 l8/\ah l8):=⟨Dv.out.1.base (oJ vj HX7.size),Dv.out.2.1⟩;have x4:Hid (gW p q k (L.set k d) (lv l8)):=by
       unfold Hid;rw [Dv.out.2.2.1,HV6.out,Nat.mul_comm (lv q) d];exact HST
      clear Dv va HMI;go_wp2_with fail;go_roundw
      case rel=>exact ⟨k,_,l8,by omega,by go_num,HX2.trans HX8,oJ vj HX8.size,HO2.ext HX8,HF,x4⟩
      case measure=>simp [intOf]
     ·obtain rfl:0=d:=(by omega);have HF:Hid (a_ (w.heap.size+1) (wi.setCell ⟨w.heap.size,k,none⟩ (.int .i64 (0:Nat))) v6 R1/\ah R1):=⟨HR2.base hsz,HC6⟩;have x4:Hid (gW p q k (L.set k 0) (lv R1)):=by
       have:=HST.out;rw [Nat.zero_mul,Nat.sub_zero,<- HV6.out] at this;exact this
      clear hy;go_wp2_with fail;go_roundw
      case rel=>exact ⟨k,_,R1,by omega,by go_num,HX2,vj,HO2,HF,x4⟩
      case measure=>simp [intOf]
  ·obtain rfl:k1=0:=(by omega);have HT:=oA (mM w.heap.size L _ wo HO HS.pcs);have HDN:=oA HS.done;have HRL:Hid (R.length<=q.length):=ah.length_le HR.2 HQ (Nat.le_of_lt HS.lt);have HL:=oA HS.len;go_wp2_with fail;refine HT.mono ?_;rintro e w5 ⟨r,l,rfl,hr,kk,rfl⟩;have HRR:=oA hr;clear hr HT;go_wp2_with fail;go_ret2;exact ⟨r,u7,l,R,rfl,⟨HRR.out.out.1,HRR.out.out.2.1,HRR.out.out.2.2.1.trans HDN.1,by rw [HN.out,<- HL.out];exact HRR.out.out.2.2.2,(HR.1.base (by omega)).ext (aA.draws (aA.refl _) _),HR.2,HDN.2,HRL⟩,aA.draws pV _⟩
def fj (n:Int):Prop:=-9223372036854775808<=n/\n<=9223372036854775807
instance (n:Int):Decidable (fj n):=inferInstanceAs (Decidable (_/\_))
def gT (n:Int):Int:=if fj n then n else 0
structure fQ (w:World):Prop where
 pow:ae w
 rng:∃ te pe,w.cell? ⟨3,0,none⟩=some (.iface te pe)
theorem fQ.ext {w w':World} (h:fQ w) (he:aA w w'):fQ w':=by
 obtain ⟨te,pe,hr⟩:=h.rng;exact ⟨h.pow.ext he,⟨te,pe,he.cell hr⟩⟩
theorem F3_ (n:Int) (h:¬ fj n):Lib.parseIntB 64 (aB n).data.toList=.range:=by
 have:=M4_ (jz n).1 (by rw [(jz n).2];exact h);rw [Lib.parseIntB_64];exact this
theorem p9_ (n:Int) (h:fj n):Lib.parseIntB 64 (aB n).data.toList=.ok n:=by
 have:=U7_ (jz n).1 (by rw [(jz n).2];exact h);rw [(jz n).2] at this;rw [Lib.parseIntB_64];exact this
theorem A1_ (n:Int) (w:World) (hs:(aB n).size<=2000000000) (ht:fQ w) :
  oX 82 #[.string (aB n)] w (.tuple #[.int .i64 (gT n),.bool (decide (fj n))]):=by
 by_cases h:fj n
 ·have HV:Hid (gT n=n/\decide (fj n)=true):=⟨by unfold gT;rw [if_pos h],oT h⟩;have HP:Hid (oX 138 #[.string (aB n),.int .i64 10,.int .i64 64] w (.tuple #[.int .i64 n,.nilIface])) :=
   (strconv_ParseInt_10_at64_ok (aB n) (by omega) n (p9_ n h) w).mono fun e w' ⟨h1,h2⟩=>⟨h1,by
    rcases h2 with rfl | ⟨t,rfl⟩
    ·exact aA.refl _
    ·exact ⟨rfl,rfl,rfl,by rw [Lib.bytesWorld_size];omega,fun j hj=>Lib.bytesWorld_at_old w _ t j hj⟩⟩
  clear h ht
  go_enter func82,ntmps82
  go_wp2_with fail;refine o_ HP ?_;intro w1 HE1;clear HP;go_wp2_with fail;go_ret2;exact ⟨by rw [HV.out.1,HV.out.2];rfl,HE1⟩
 ·have HV:Hid (gT n=0/\decide (fj n)=false):=⟨by unfold gT;rw [if_neg h],oS h⟩;obtain ⟨te,pe,hr⟩:=ht.rng;have HP:=oA (strconv_ParseInt_10_at64_range (aB n) (by omega) (F3_ n h) _ w hr (.inr ⟨te,pe,rfl⟩));clear h hr ht
  go_enter func82,ntmps82
  go_wp2_with fail;refine HP.mono ?_;rintro e w1 ⟨N,rfl,hN,Fp,hE1⟩;have HE1:Hid (aA w w1):=hE1;clear hE1 HP Fp;go_wp2_with fail;go_ret2;exact ⟨by rw [HV.out.1,HV.out.2];rfl,HE1⟩
def ez (n:Int):Bool:=decide (n.natAbs<1000000000000000000)
def g_ (n:Int):Int:=if n.natAbs<1000000000000000000 then n else 0
theorem X3_ (n:Int) (w:World) (hsz:(aB n).size<=1000000) :
  oX 126 #[.string (aB n)] w (.tuple #[.int .i64 (g_ n),.bool (ez n)]):=by
 by_cases h:n.natAbs<1000000000000000000
 ·unfold ez g_;rw [if_pos h,oT h];exact np n w (by omega)
 ·have HD:=oA (kE n w);have HV:Hid (g_ n=0/\ez n=false):=⟨by unfold g_;rw [if_neg h],by unfold ez;exact oS h⟩;have hs:18<(aE n.natAbs).size:=by
   rw [dn]
   false_or_by_contra
   rename_i hn;have h1:=Lib.lt_pow_nDigits n.natAbs;have h2:10^Lib.nDigits n.natAbs<=10^18:=Nat.pow_le_pow_right (by omega) (by omega);rw [show (10:Nat)^18=1000000000000000000 by decide] at h2;omega
  have hz:(18:Int)<((aE n.natAbs).size:Int):=by omega
  clear h
  go_enter func126,ntmps126
  go_wp2_with fail;refine q_ HD ?_;go_wp2_with fail;go_ret2;exact ⟨by rw [HV.out.1,HV.out.2];rfl,aA.refl _⟩
def cQ (n:Int):Int:=if n<0 then -1 else 1
theorem mJ (n:Int) (w:World) :
  oY 128 #[.string (aB n)] w (.int .i64 (cQ n)):=by
 have HS:=oA (H7_ n w);by_cases h:n<0
 ·have HR:Hid (cQ n=-1):=by unfold Hid cQ;rw [if_pos h]
  rw [Int.sign_eq_neg_one_of_neg h] at HS;clear h
  go_enter func128,ntmps128
  go_wp2_with fail;refine q_ HS ?_;go_wp2_with fail;go_ret;exact ⟨by rw [HR.out];rfl,rfl⟩
 ·have HR:Hid (cQ n=1):=by unfold Hid cQ;rw [if_neg h]
  have h0:0<=n.sign:=Int.sign_nonneg_iff.2 (by omega);obtain ⟨s,hs⟩:=oc n.sign;rw [<- hs] at HS h0;have h1:¬ s<0:=by omega
  clear h hs
  go_enter func128,ntmps128
  go_wp2_with fail;refine q_ HS ?_;go_wp2_with fail;go_ret;exact ⟨by rw [HR.out];rfl,rfl⟩
theorem Z4z (n:Int) (w:World) (hsz:(aB n).size<=1000000) :
  oY 72 #[.string (aB n)] w (.string (aB (-n))):=by
 have HS:=oA (H7_ n w);have hp0:0<(aB n).size:=km n;by_cases h:n<0
 ·rw [Int.sign_eq_neg_one_of_neg h] at HS;have HT:=oA (w1_ n h);have hp1:(1:Int)<=((aB n).size:Int):=by omega
  have HR:Hid (aB (-n)=aE n.natAbs):=by unfold Hid;rw [c_ (-n) (by omega)];congr 1;omega
  clear h
  go_enter func72,ntmps72
  go_wp2_with fail;refine q_ HS ?_;go_wp2_with fail;go_ret;exact ⟨by rw [HR.out,<- HT.out];rfl,rfl⟩
 ·by_cases h0:n=0
  ·subst h0
   go_enter func72,ntmps72
   go_wp2_with fail;refine q_ HS ?_;go_wp2_with fail;refine q_ (H7_ 0 w) ?_;go_wp2_with fail;go_ret;exact ⟨rfl,rfl⟩
  ·rw [Int.sign_eq_one_of_pos (by omega)] at HS;have HR:Hid ((⟨#[45]⟩:ByteArray)++aB n=aB (-n)):=by
    refine l8_ ?_;rw [kj (-n) (by omega),c_ n (by omega),show (-n).natAbs=n.toNat by omega];rfl
   have z1:¬ 9223372036854775807<1+(aB n).size:=(by omega);clear h h0
   go_enter func72,ntmps72
   go_wp2_with fail;refine q_ HS ?_;go_wp2_with fail;refine q_ HS ?_;go_wp2_with fail;go_ret;exact ⟨by first | (rw [<- HR.out];rfl) | rfl | (rw [HR.out];rfl),rfl⟩
end Go.Proofs.YtjlkkofmojgipaaGreatDoor
