import Derived.Test.YtjlkkofmojgipaaGreatDoorXAB
import Derived.Test.YtjlkkofmojgipaaGreatDoorXAA
import Derived.WalkSmall
import Derived.IntWalk
import Derived.OwnWalk
import Derived.Lib.ConvBytes
import Derived.Test.YtjlkkofmojgipaaGreatDoorXAE
set_option linter.unusedVariables false
set_option linter.unusedSimpArgs false
set_option maxRecDepth 1000000
set_option maxHeartbeats 4000000
namespace Go.Proofs.YtjlkkofmojgipaaGreatDoor
open Go.RowKit Go.Proofs.Tryz
def cG (p:List Nat) (i:Nat):Nat:=p.getD i 0
theorem jw {p:List Nat} {i x:Nat} (h:p[i]?=some x):cG p i=x:=by
 unfold cG;rw [oC,h];rfl
theorem kT {p:List Nat} {i:Nat} (h:p.length<=i):cG p i=0:=by
 unfold cG;rw [oC,oK h];rfl
theorem lM {p:List Nat} (h:aS p) (i:Nat):cG p i<1000000000:=by
 by_cases hi:i<p.length
 ·rw [jw (n9 hi)];exact h _ (List.getElem_mem hi)
 ·rw [kT (by omega)];omega
theorem nM (p:List Nat) (i:Nat):lv (p.take (i+1))=lv (p.take i)+pB i*cG p i:=by
 by_cases hi:i<p.length
 ·have h:=n9 hi;rw [jT h,jw h]
 ·rw [kT (by omega),List.take_of_length_le (by omega),List.take_of_length_le (by omega)];rfl
theorem Z21 (l:List Nat) (x:Nat):lv (l++[x])=lv l+pB l.length*x:=by
 rw [iv,eX,dL,Nat.mul_zero,Nat.add_zero]
structure iW (p q:List Nat) (i c:Nat) (L:List Nat):Prop where
 len:L.length=i
 pcs:aS L
 le:c<=1
 val:lv L+c*pB i=lv (p.take i)+lv (q.take i)
theorem iW.start (p q:List Nat):iW p q 0 0 []:=⟨rfl,aS.nil,by omega,by simp [dL]⟩
theorem iW.step {p q L:List Nat} {i c s:Nat} (h:iW p q i c L) (hp:aS p) (hq:aS q) (hs:s=c+cG p i+cG q i):iW p q (i+1) (s / 1000000000) (L++[s%1000000000]):=by
 have h1:=lM hp i;have h2:=lM hq i;have h3:=h.le;refine ⟨by rw [oU,h.len];rfl,h.pcs.append (aS.cons (by omega) aS.nil),by omega,?_⟩;rw [Z21,h.len,nM,nM,er];have hv:=h.val;have e:=Nat.div_add_mod s 1000000000;generalize s / 1000000000=d at *
 generalize s%1000000000=m at *
 subst hs;generalize lv L=A at *
 generalize pB i=P at *
 grind
theorem iW.done {p q L:List Nat} {i:Nat} (h:iW p q i 0 L) (h1:p.length<=i) (h2:q.length<=i):lv L=lv p+lv q:=by
 have:=h.val;rw [List.take_of_length_le h1,List.take_of_length_le h2,Nat.zero_mul,Nat.add_zero] at this;exact this
structure jf (p q:List Nat) (i b:Nat) (L:List Nat):Prop where
 len:L.length=i
 pcs:aS L
 le:b<=1
 val:lv L+lv (q.take i)=lv (p.take i)+b*pB i
theorem jf.start (p q:List Nat):jf p q 0 0 []:=⟨rfl,aS.nil,by omega,by simp [dL]⟩
theorem jf.step {p q L:List Nat} {i b x b':Nat} (h:jf p q i b L) (hx:x<1000000000) (hb:b'<=1) (he:x+cG q i+b=cG p i+b'*1000000000):jf p q (i+1) b' (L++[x]):=by
 refine ⟨by rw [oU,h.len];rfl,h.pcs.append (aS.cons hx aS.nil),hb,?_⟩;rw [Z21,h.len,nM,nM,er];have hv:=h.val;have h2:pB i*(x+cG q i+b)=pB i*(cG p i+b'*1000000000):=by rw [he]
 generalize pB i=P at *
 grind
theorem jf.done {p q L:List Nat} {b:Nat} (h:jf p q p.length b L) (hp:aS p) (hq:q.length<=p.length) (hl:lv q<=lv p):lv L=lv p-lv q/\b=0:=by
 have hv:=h.val;rw [List.take_of_length_le (oJ _),List.take_of_length_le hq] at hv;have h1:=eY h.pcs;rw [h.len] at h1;have h2:=h.le;have hb:b=0:=by
  false_or_by_contra
  have:b=1:=by omega
  subst this;omega
 subst hb;omega
structure j7 (p q:List Nat) (i:Nat) (L:List Nat):Prop where
 len:L.length=p.length+q.length+1
 pcs:aS L
 val:lv L=lv (p.take i)*lv q
structure ia (p q:List Nat) (i x k c:Nat) (L:List Nat):Prop where
 len:L.length=p.length+q.length+1
 pcs:aS L
 lt:c<1000000000
 val:lv L+c*pB (i+k)=lv (p.take i)*lv q+x*(lv (q.take k)*pB i)
theorem j7.start (p q:List Nat):j7 p q 0 (List.replicate (p.length+q.length+1) 0) :=
 ⟨by simp,aS.zeros _,by rw [y3_,List.take_zero,dL,Nat.zero_mul]⟩
theorem j7.enter {p q L:List Nat} {i:Nat} (x:Nat) (h:j7 p q i L):ia p q i x 0 0 L :=
 ⟨h.len,h.pcs,by omega,by rw [h.val,List.take_zero,dL];simp⟩
theorem ia.room {p q L:List Nat} {i x k c:Nat} (h:ia p q i x k c L) (hp:aS p) (hq:aS q) (hx:p[i]?=some x) (hk:k<q.length\/0<c):i+k<p.length+q.length+1:=by
 have hi:=(n_.1 hx).1;rcases hk with hk | hk
 ·omega
 ·false_or_by_contra
  rename_i hn;have h1:=eY hp;have h2:=eY hq;have h3:=D6_ p (i+1);rw [jT hx] at h3;have h4:=D6_ q k;have h5:lv (p.take i)*lv q+x*(lv (q.take k)*pB i)<=lv p*lv q:=by
   have h6:x*(lv (q.take k)*pB i)<=(pB i*x)*lv q:=by
    have:=Nat.mul_le_mul_left (pB i*x) h4;have e:x*(lv (q.take k)*pB i)=pB i*x*lv (q.take k):=by grind
    omega
   have h7:=Nat.mul_le_mul_right (lv q) h3;rw [Nat.add_mul] at h7;omega
  have h8:lv p*lv q<pB (p.length+q.length):=by rw [lL];exact Nat.mul_lt_mul'' h1 h2
  have h9:pB (p.length+q.length)<=pB (i+k):=x0_ (by omega);have h10:1*pB (i+k)<=c*pB (i+k):=Nat.mul_le_mul_right _ hk;have hv:=h.val;omega
theorem ia.step {p q L:List Nat} {i x k c a y c':Nat} (h:ia p q i x k c L) (ha:L[i+k]?=some a) (hx:x<1000000000) (hq:aS q) (hc:c'=c+a+x*cG q k) (hy:y=c'%1000000000) :
  ia p q i x (k+1) (c' / 1000000000) (L.set (i+k) y):=by
 have h1:=h.lt;have h2:=h.pcs.get ha;have h3:=lM hq k;have h4:x*cG q k<=999999999*999999999:=Nat.mul_le_mul (by omega) (by omega);refine ⟨by rw [List.length_set];exact h.len,h.pcs.set _ _ (by omega),by omega,?_⟩
 exact T0_ (P:=pB (i+k)) (P':=pB (i+k+1)) (c:=c) (x:=a) (y:=y) (ab:=x*cG q k) (acc2:=x*(lv (q.take (k+1))*pB i)) (er _) h.val hc hy (nL y ha) (by
   rw [nM,lL];grind)
theorem ia.leave {p q L:List Nat} {i x k:Nat} (h:ia p q i x k 0 L) (hk:q.length<=k) (hx:p[i]?=some x):j7 p q (i+1) L:=by
 refine ⟨h.len,h.pcs,?_⟩;have h2:=h.val;rw [List.take_of_length_le hk,Nat.zero_mul,Nat.add_zero] at h2;rw [h2,jT hx];grind
structure iC (p q:List Nat) (i:Nat) (L:List Nat) (R:Nat):Prop where
 len:L.length=p.length
 pcs:aS L
 low:∀ j,j<i->L[j]?=some 0\/p.length<=j
 val:lv (p.drop i)=lv (L.drop i)*lv q+R
 lt:R<lv q
theorem iC.start (p q:List Nat) (hq:0<lv q):iC p q p.length (List.replicate p.length 0) 0 :=
 ⟨by simp,aS.zeros _,fun j hj=>.inl (by rw [List.getElem?_replicate,if_pos hj]),by rw [List.drop_length,List.drop_eq_nil_of_le (by simp)];simp [dL],hq⟩
theorem iC.step {p q L:List Nat} {i R x d:Nat} (h:iC p q (i+1) L R) (hx:p[i]?=some x) (hp:aS p) (hd:d=(x+1000000000*R) / lv q) :
  iC p q i (L.set i d) ((x+1000000000*R)-d*lv q)/\d<1000000000/\d*lv q<=x+1000000000*R:=by
 have hi:=(n_.1 hx).1;have hxb:=hp.get hx;have hlt:=h.lt;have h0:0<lv q:=by omega
 have ry:d<1000000000:=by
  rw [hd,Nat.div_lt_iff_lt_mul h0];have:(R+1)*1000000000<=lv q*1000000000:=Nat.mul_le_mul_right _ hlt;omega
 have e:=Nat.div_add_mod (x+1000000000*R) (lv q);have e2:=Nat.mod_lt (x+1000000000*R) h0;rw [<- hd] at e;have e3:lv q*d=d*lv q:=Nat.mul_comm _ _;refine ⟨⟨by rw [List.length_set];exact h.len,h.pcs.set _ _ ry,fun j hj=>?_,?_,by omega⟩,ry,by omega⟩
 ·rw [oV,if_neg (by omega)];exact h.low j (by omega)
 ·have hL:(L.set i d)[i]?=some d:=by rw [oV,if_pos rfl,if_pos (by rw [h.len];exact hi)]
  rw [ek hx,ek hL,List.drop_set_of_lt (by omega),h.val,Nat.add_mul];have:1000000000*lv (L.drop (i+1))*lv q=1000000000*(lv (L.drop (i+1))*lv q):=Nat.mul_assoc _ _ _;omega
theorem iC.done {p q L:List Nat} {R:Nat} (h:iC p q 0 L R):lv L=lv p / lv q/\R=lv p%lv q:=by
 have hv:=h.val;rw [List.drop_zero,List.drop_zero] at hv;have hlt:=h.lt;rw [hv,Nat.mul_comm];constructor
 ·rw [Nat.mul_add_div (by omega),Nat.div_eq_of_lt hlt];rfl
 ·rw [Nat.mul_add_mod,Nat.mod_eq_of_lt hlt]
theorem m8_ {u:Nat} (h:0<u):(Lib.decDigits u).head?≠some 48\/(Lib.decDigits u).length=1:=by
 by_cases h1:(Lib.decDigits u).length=1
 ·exact .inr h1
 ·refine .inl fun e=>?_;have hv:=fx u;have hlen:=Lib.decDigits_length u;cases hl:Lib.decDigits u with
  | nil=>rw [hl] at e;cases e
  | cons c r =>
   rw [hl] at e hv hlen;simp only [List.head?_cons,Option.some.injEq] at e;subst e;have ha:=gP u;rw [hl,List.all_cons,Bool.and_eq_true] at ha;rw [fB] at hv;have h3:=nA r (0*10+((48:UInt8).toNat-48)) ha.2;rw [hv] at h3;have h4:=P4_ u (by omega);rw [<- hlen,List.length_cons] at h4;have:(0*10+((48:UInt8).toNat-48)+1)*10^r.length=10^r.length:=by
    rw [show (0*10+((48:UInt8).toNat-48)+1)=1 from rfl,Nat.one_mul]
   rw [this] at h3;rw [Nat.add_sub_cancel] at h4;omega
def i_ (x:Nat):List UInt8:=List.replicate (9-(Lib.decDigits x).length) 48++Lib.decDigits x
theorem a6_ (n a:Nat):ak 0 (List.replicate n 48)=0:=by
 induction n with
 | zero=>rfl
 | succ n ih=>rw [List.replicate_succ,fB];exact ih
theorem Z4a {x:Nat} (h:x<1000000000):(i_ x).length=9:=by
 unfold i_;rw [oU,List.length_replicate,Lib.decDigits_length];have:=lH x 9 (by rw [show (10:Nat)^9=1000000000 by decide];exact h) (by omega);omega
theorem Z4b (x:Nat):ak 0 (i_ x)=x:=by
 unfold i_;rw [jk,a6_ _ 0];exact fx x
theorem a9_ {y x:Nat} (hy:0<y) (hx:x<1000000000):Lib.decDigits (x+1000000000*y)=Lib.decDigits y++i_ x:=by
 have hne:Lib.decDigits y≠[]:=by
  intro e;have:=Lib.decDigits_length y;rw [e] at this;have:=Lib.nDigits_pos y;simp at *;omega
 have hall:(Lib.decDigits y++i_ x).all cI=true:=by
  rw [List.all_append,gP,Bool.true_and];unfold i_;rw [List.all_append,gP,Bool.and_true,List.all_eq_true];intro c hc;have:=(List.mem_replicate.1 hc).2;subst this;decide
 have sX:ak 0 (Lib.decDigits y++i_ x)=x+1000000000*y:=by
  rw [jk,fx,M4_,Z4b,Z4a hx];rw [show (10:Nat)^9=1000000000 by decide];omega
 rw [<- sX];refine (C0_ hall (by simp [hne]) ?_).symm;refine .inl fun e=>?_;have Av:(Lib.decDigits y).head?=some 48:=by
  cases hl:Lib.decDigits y with
  | nil=>exact absurd hl hne
  | cons c r=>rw [hl] at e;simpa using e
 rcases m8_ hy with h | h
 ·exact h Av
 ·cases hl:Lib.decDigits y with
  | nil=>exact absurd hl hne
  | cons c r =>
   rw [hl] at h Av;have hr:r=[]:=by simpa using h
   subst hr;simp only [List.head?_cons,Option.some.injEq] at Av;subst Av;have:=fx y;rw [hl] at this;revert this;show 0=y->False;omega
theorem iK:(prog.info? 3).map (fun i=>(i.zero,i.size,i.bytes))=some (some (.int .i64 0),1,8):=by kernel_rfl
def pcJ (x:Nat):Value:=.int .i64 x
def bE (B:Nat) (w:World) (v:Value) (l:List Nat):Prop:=w.ownsRow B 3 1 v l.length (l.map pcJ)
def pcRJ (_:World) (u:List Value) (x:Nat):Prop:=u=[pcJ x]
theorem pcRJ.mono:jF pcRJ:=fun _ _ _ _ _ h=>h
abbrev eS (w:World) (v:Value) (l:List Nat):Prop:=aI 1 pcRJ w v l
theorem eS.ext {w w':World} {v:Value} {l:List Nat} (h:eS w v l) (he:aC w w'):eS w' v l:=aI.ext pcRJ.mono h he
theorem bE.at {B:Nat} {w:World} {v:Value} {l:List Nat} (h:bE B w v l):eS w v l:=by
 refine ⟨l.map fun x=>[pcJ x],by simp,by simp,?_,?_⟩
 ·have:=dn.of_owns h
  rwa [eI]
 ·intro j u x hu hx;simp only [oE,hx,Option.map_some,Option.some.injEq] at hu;exact hu.symm
theorem bE.ext {B:Nat} {w w':World} {v:Value} {l:List Nat} (h:bE B w v l) (he:aC w w'):bE B w' v l:=fi h he
theorem bE.form {B:Nat} {w:World} {v:Value} {l:List Nat} (h:bE B w v l):∃ a cap,v=.slice a l.length cap/\l.length<=cap/\cap<=9223372036854775807/\(l≠[]->∃ g,a=some ⟨g,0,none⟩/\B<=g/\g<w.heap.size):=by
 rcases h.2 with ⟨rfl,hn⟩ | ⟨g,cap,cur,rfl,hb,hg,h1,h2,h3,h4⟩
 ·exact ⟨none,0,by rw [hn],by omega,by omega,fun hne=>absurd (List.length_eq_zero_iff.1 hn) hne⟩
 ·exact ⟨_,cap,rfl,h1,h2,fun _=>⟨g,rfl,hb,(Array.getElem?_eq_some_iff.1 hg).1⟩⟩
theorem bE.base {B B':Nat} {w:World} {v:Value} {l:List Nat} (h:bE B w v l) (hb:B'<=B):bE B' w v l:=by
 refine ⟨h.1,?_⟩;rcases h.2 with h' | ⟨g,cap,cur,e,hg,rest⟩
 ·exact .inl h'
 ·exact .inr ⟨g,cap,cur,e,oI hb hg,rest⟩
theorem bE.nil (B:Nat) (w:World):bE B w (.slice none 0 0) []:=World.ownsRow_nil w B 3 1
theorem bE.get {B g n cap:Nat} {w:World} {l:List Nat} (h:bE B w (.slice (some ⟨g,0,none⟩) n cap) l) {k x:Nat} (hx:l[k]?=some x) :
  w.cell? ⟨g,k,none⟩=some (.int .i64 x)/\w.frozen? ⟨g,k,none⟩=false:=by
 have hk:k<l.length:=(n_.1 hx).1;have hn:n=l.length:=by
  rcases h.2 with ⟨e,_⟩ | ⟨g',cap',cur,e,_⟩
  ·cases e
  ·simp only [Value.slice.injEq] at e;exact e.2.1
 subst hn;exact ⟨(World.ownsRow.cellAt h k (by simpa using hk)).trans (by simp [hx,pcJ]),World.ownsRow.frozenAt h k⟩
theorem bE.set {B g n cap:Nat} {w:World} {l:List Nat} (h:bE B w (.slice (some ⟨g,0,none⟩) n cap) l) (k x:Nat) :
  bE B (w.setCell ⟨g,k,none⟩ (.int .i64 x)) (.slice (some ⟨g,0,none⟩) n cap) (l.set k x):=by
 have hn:n=l.length:=by
  rcases h.2 with ⟨e,_⟩ | ⟨g',cap',cur,e,_⟩
  ·cases e
  ·simp only [Value.slice.injEq] at e;exact e.2.1
 subst hn;unfold bE at h |-;rw [List.map_set,List.length_set];exact (World.ownsRow.stored h k _).1
theorem bE.take {B g n cap:Nat} {w:World} {l:List Nat} (h:bE B w (.slice (some ⟨g,0,none⟩) n cap) l) (m:Nat) (hm:m<=l.length) :
  bE B w (.slice (some ⟨g,0,none⟩) m cap) (l.take m):=by
 have hl:(l.take m).length=m:=by rw [oF];omega
 refine ⟨by rw [List.length_map,Nat.mul_one],.inr ?_⟩;rcases h.2 with ⟨e,_⟩ | ⟨g',cap',cur,e,hb,hg,h1,h2,h3,h4⟩
 ·cases e
 ·simp only [Value.slice.injEq,Option.some.injEq,Addr.mk.injEq] at e;obtain ⟨⟨rfl,-,-⟩,rfl,rfl⟩:=e;refine ⟨g,cap,cur,by rw [hl],hb,hg,by omega,h2,h3,?_⟩;rw [Nat.mul_one] at h4 |-;rw [List.map_take,<- h4,List.take_take,hl,Nat.min_eq_left (by omega)]
theorem bE.len {B g n cap:Nat} {w:World} {l:List Nat} (h:bE B w (.slice (some ⟨g,0,none⟩) n cap) l):n=l.length:=by
 rcases h.2 with ⟨e,_⟩ | ⟨g',cap',cur,e,_⟩
 ·cases e
 ·simp only [Value.slice.injEq] at e;exact e.2.1
theorem eS.open {w:World} {v:Value} {l:List Nat} (h:eS w v l) :
  ∃ (a:Option Addr) (cap:Nat),v=.slice a l.length cap/\l.length<=cap/\cap<=9223372036854775807 /\
   (l≠[]->∃ b off,a=some ⟨b,off,none⟩/\b<w.heap.size/\∀ (j:Nat) x,l[j]?=some x->w.cell? ⟨b,off+j,none⟩=some (.int .i64 x)):=by
 obtain ⟨a,cap,hv,h1,h2,h3,h4⟩:=aI.open h;refine ⟨a,cap,hv,h1,h2,fun hx=>?_⟩;obtain ⟨b,off,ha,hb,hc⟩:=h4 (by omega) hx;refine ⟨b,off,ha,hb,fun j x hj=>?_⟩;obtain ⟨u,_,hr,hcell⟩:=hc j x hj;have:=hcell 0 (by omega);rw [hr] at this;simpa [pcJ] using this
theorem bE.made {B n:Nat} {w:World} {v:Value} (h:w.ownsRow B 3 1 v n (madeCells #[.int .i64 0] n).toList):bE B w v (List.replicate n 0):=by
 unfold bE;rw [List.length_replicate];have e:(madeCells #[Value.int .i64 0] n).toList=(List.replicate n 0).map pcJ:=(toList_madeCells_one _ _).trans (by simp [pcJ])
 rwa [e] at h
theorem bE.build {B:Nat} {w:World} {v:Value} {l:List Nat} (h:bE B w v l):aZ w B 3 1 v pcRJ l:=by
 refine ⟨l.map fun x=>[pcJ x],by simp,by simp,?_,?_⟩
 ·rw [eI];exact h
 ·intro j u x hu hx w' _;simp only [oE,hx,Option.map_some,Option.some.injEq] at hu;exact hu.symm
theorem aZ.ownJ {B:Nat} {w:World} {v:Value} {l:List Nat} (h:aZ w B 3 1 v pcRJ l):bE B w v l:=by
 obtain ⟨us,h1,h2,h3,h4⟩:=h;have:us=l.map fun x=>[pcJ x]:=by
  apply List.ext_getElem?;intro i;rw [oE];by_cases hi:i<l.length
  ·have hi2:i<us.length:=by omega
   have:=(h4 i us[i] l[i] (by simp [hi2]) (by simp [hi])).now;simp only [pcRJ] at this;simp [hi,hi2,this]
  ·rw [oK (by omega),oK (by omega)];rfl
 rw [this,eI] at h3;exact h3
theorem mM (B:Nat) (l:List Nat) (v:Value) (w:World) (h:bE B w v l) (hp:aS l) :
  Calls prog 179 #[v] w fun e w'=>∃ v' l',e=.returned v'/\Hid (bE B w' v' l'/\ai l'/\lv l'=lv l/\l'.length<=l.length)/\∃ k,w'=w.drewN k:=by
 obtain ⟨a,cap,rfl,hl,hc,hg⟩:=h.form;have HW:=n8 h;have HP:=n8 hp;have HG:=n8 hg;clear h hp hg
 go_enter func179,ntmps179
 go_wp2_with fail
 go_loopw [3] (fun t wr=>∃ m:Nat,m<=l.length/\t=.int .i64 m/\Hid (lv (l.take m)=lv l)/\∃ k,wr=w.drewN k) (fun t _=>(intOf t).toNat)
 case atStart=>exact ⟨l.length,oJ _,rfl,by unfold Hid;rw [List.take_length],0,rfl⟩
 case round =>
  obtain ⟨m,hm,rfl,HV,k,rfl⟩:=hrel;by_cases h0:m=0
  ·subst h0;have HF:Hid (bE B w (.slice a 0 cap) []/\ai []/\lv []=lv l/\([]:List Nat).length<=l.length):=by
    refine ⟨?_,ai.nil,HV,Nat.zero_le _⟩;by_cases hn:l=[]
    ·subst hn;exact HW
    ·obtain ⟨g,rfl,-,-⟩:=HG hn;exact HW.take 0 (Nat.zero_le _)
   go_wp2_with fail;go_ret;exact ⟨_,[],rfl,HF,k,rfl⟩
  ·have hne:l≠[]:=by rintro rfl;simp at hm;omega
   obtain ⟨g,rfl,hg1,sS⟩:=HG hne;obtain ⟨x,hx⟩:∃ x,l[m-1]?=some x:=⟨_,n9 (by omega)⟩;obtain ⟨hcell,-⟩:=HW.get hx;have wJ:(0:Int)<=(m:Int)-1:=by omega
   have sR:((m:Int)-1).toNat=m-1:=by omega
   have hi2:1<=m:=by omega
   have Lj:(0:Int)<(m:Int):=by omega
   by_cases pE:x=0
   ·subst pE;have yp:Hid (lv (l.take (m-1))=lv l):=by
     unfold Hid;have:=jT hx;rw [show m-1+1=m by omega,Nat.mul_zero,Nat.add_zero,HV.out] at this;exact this.symm
    clear hx h0 hne;go_wp2_with fail;go_roundw
    case rel=>exact ⟨m-1,by omega,by first | rfl | (congr 1;omega),yp,k,rfl⟩
    case measure=>simp [intOf];omega
   ·have HF:Hid (bE B w (.slice (some ⟨g,0,none⟩) m cap) (l.take m)/\ai (l.take m)/\lv (l.take m)=lv l/\(l.take m).length<=l.length):=by
     refine ⟨HW.take m hm,⟨HP.take m,?_⟩,HV,by rw [oF];omega⟩;intro y hy;rw [oF,Nat.min_eq_left hm,List.getElem?_take,if_pos (by omega),hx] at hy;cases hy;exact pE
    have hxb:((x:Int) == 0)=false:=by rw [beq_eq_false_iff_ne];omega
    clear hx h0 hne;go_wp2_with fail;go_ret;exact ⟨_,_,rfl,HF,k,rfl⟩
theorem a0_ (s:ByteArray) (j:Nat) (h:j<s.size):s.data.toList[j]?=some s[j]:=by
 have:j<s.data.toList.length:=by rw [<- Lib.size_eq];exact h
 rw [n9 this];rfl
theorem Z0w (s:ByteArray) (w:World) (hd:s.data.toList.all cI=true) (hs:s.size<=400000) :
  Calls prog 130 #[.string s] w fun e w'=>∃ v l,e=.returned v/\Hid (bE w.heap.size w' v l/\ai l/\lv l=ak 0 s.data.toList/\l.length<=s.size)/\aC w w':=by
 have HD:=n8 hd;have hl:s.data.toList.length=s.size:=(Lib.size_eq s).symm;have HL:=n8 hl;have tM:Hid (aZ w w.heap.size 3 1 (.slice none 0 0) pcRJ []):=bE.build (bE.nil _ _);have HS0:Hid (aS []/\([]:List Nat).length=0/\lv []=ak 0 (s.data.toList.drop (s.size-9*0))):=by
  refine ⟨aS.nil,rfl,?_⟩;rw [Nat.mul_zero,Nat.sub_zero,List.drop_eq_nil_of_le (by rw [HL.out];exact oJ _)];rfl
 clear hl hd
 go_enter func130,ntmps130
 go_wp2_with fail
 go_loopw [3,0] (fun out t wr=>∃ (k e:Nat) (b:ByteArray) (l:List Nat),t=.string b/\b.size=e/\e<=s.size/\Hid (e=s.size-9*k)/\Hid (k<=s.size)/\Hid (b.data.toList=s.data.toList.take e)/\aC w wr/\Hid (aZ wr w.heap.size 3 1 out pcRJ l)/\Hid (aS l/\l.length=k/\lv l=ak 0 (s.data.toList.drop (s.size-9*k)))) (fun _ t _=>match t with | .string b=>b.size | _=>0)
 case atStart=>exact ⟨0,s.size,s,[],rfl,rfl,by omega,rfl,Nat.zero_le _,by unfold Hid;rw [<- HL.out,List.take_length],by first | exact aC.refl _ | exact aC.drew _,tM,HS0⟩
 case round =>
  obtain ⟨k,e,b,l,rfl,hbe,Lq,HE,zm,IQ,pP,HB,HS⟩:=hrel;obtain ⟨wo,rfl⟩:∃ wo:World,wo=wr:=⟨_,rfl⟩;clear tM HS0;by_cases h0:0<e
  ·have sw:(0:Int)<(b.size:Int):=by omega
   have NG:Hid (s.size-e=9*k):=by have:=HE.out;unfold Hid;omega
   have pS:Hid (b.data.toList.all cI=true):=by unfold Hid;rw [IQ.out];exact ml (f:=0) HD e
   obtain ⟨f,hf⟩:∃ f:Nat,(e<=9/\f=0)\/(9<e/\(e:Int)-9=(f:Int)):=by
    by_cases h9:e<=9
    ·exact ⟨0,.inl ⟨h9,rfl⟩⟩
    ·exact ⟨e-9,.inr ⟨by omega,by omega⟩⟩
   have Bf:f<=e:=by omega
   have Lp:e<=f+9:=by omega
   have CJ:Hid (f=s.size-9*(k+1)):=by have:=HE.out;unfold Hid;omega
   have Hz:Hid (k+1<=s.size):=by have:=HE.out;unfold Hid;omega
   have HNB:Hid ((b.extract 0 f).size=f/\(b.extract 0 f).data.toList=s.data.toList.take f):=by
    have e1:(b.extract 0 f).data.toList=s.data.toList.take f:=by
     rw [Lib.extract_data,IQ.out,List.drop_zero,List.take_take,Nat.sub_zero,Nat.min_eq_left Bf]
    refine ⟨?_,e1⟩;rw [Lib.size_eq,e1,oF,HL.out];omega
   rcases hf with ⟨h9,hf⟩ | ⟨h9,hf⟩
   case' inl =>
    have q9:¬ (9:Int)<(b.size:Int):=by omega
    have HEX:Hid (ByteArray.empty=b.extract 0 f):=by unfold Hid;rw [hf];simp
   case' inr =>
    have q9:(9:Int)<(b.size:Int):=by omega
    have q8:(b.size:Int)-9=(f:Int):=by omega
    have HEX:Hid (True):=trivial
   all_goals
    go_wp2_with fail
    go_loopw [6,5] (fun j n wr=>∃ (i v:Nat),f<=i/\i<=e/\j=.int .i64 i/\n=.int .i64 v/\v<=1000000000/\Hid (v=ak 0 ((b.data.toList.take i).drop f))/\Hid (aC wo wr)) (fun j _ _=>e-(intOf j).toNat)
    case atStart=>exact ⟨f,0,by omega,by omega,by first | rfl | (rw [hf];rfl) | go_num,rfl,by omega,by unfold Hid;rw [List.drop_eq_nil_of_le (by rw [oF];omega)];rfl,by first | exact aC.refl _ | exact aC.drew _⟩
    case round =>
     obtain ⟨i,v,wJ,hi,rfl,rfl,hv,HV,yw⟩:=hrel;obtain ⟨wi,rfl⟩:∃ wi:World,wi=wr:=⟨_,rfl⟩;by_cases hlt:i<e
     ·have hib:i<b.size:=by omega
      have HCH:=n8 (a0_ b i hib);have AV:48<=b[i].toNat/\b[i].toNat<=57:=of_decide_eq_true (List.all_eq_true.1 pS _ (oD HCH));obtain ⟨z,hz⟩:∃ z:Nat,b[i].toNat=z+48:=⟨b[i].toNat-48,by omega⟩;have Kp:z<=9:=by omega
      have yp:Hid (10*v+z=ak 0 ((b.data.toList.take (i+1)).drop f)):=by
       unfold Hid;rw [oG,HCH.out,List.drop_append_of_le_length (by rw [oF,<- Lib.size_eq];omega),jk,<- HV.out];show _=ak v [b[i]];rw [fB,jN,hz];omega
      have pt:10*v+z<=1000000000:=by
       have:=L4_ (ml (e:=i+1) (f:=f) pS) (by rw [List.length_drop,oF];omega);rw [<- yp.out] at this;omega
      have e1:(b[i].toNat:Int)=(z:Int)+48:=by rw [hz];rfl
      have e2:IntKind.u8.wrap ((z:Int)+48-48)=(z:Int):=by rw [IntKind.wrap_u8];omega
      have e3:IntKind.i64.wrap (z:Int)=(z:Int):=by rw [IntKind.wrap_i64];omega
      have F4:(i:Int)<(b.size:Int):=by omega
      clear AV hz;go_wp2_with fail;go_roundw
      case rel=>exact ⟨i+1,10*v+z,by omega,by omega,by go_num,by go_num,pt,yp,by first | exact yw | exact yw.trans (aC.drew _)⟩
      case measure=>simp [intOf];omega
     ·obtain rfl:e=i:=by omega
      have HBi:=n8 (aZ.ext HB yw);have HEi2:=n8 (aC.trans pP yw);have qC:w.heap.size<=wi.heap.size:=HEi2.size;have HLL:Hid (l.length<1000000):=by have:=HS.2.1;unfold Hid;have:=zm.out;omega
      have xp:Hid (aS (l++[v])/\(l++[v]).length=k+1/\lv (l++[v])=ak 0 (s.data.toList.drop (s.size-9*(k+1)))):=by
       have Eh:b.data.toList.take e=s.data.toList.take e:=by rw [IQ.out,List.take_take,Nat.min_self]
       have wD:v<1000000000:=by rw [HV.out];exact L4_ (ml pS _ _) (by rw [List.length_drop,oF];omega)
       refine ⟨HS.1.append (aS.cons wD aS.nil),by rw [oU,HS.out.2.1];rfl,?_⟩;rw [iv,HS.out.2.2,HS.out.2.1,eX,dL,Nat.mul_zero,Nat.add_zero,HV.out,Eh,<- HE.out];have:=t2_ (l:=s.data.toList) (e:=e) (k:=k) (by rw [HL.out];exact Lq) (by rw [HL.out];exact NG) _ Bf rfl;rw [this,<- CJ.out]
      clear hlt;have F4:¬ (e:Int)<(b.size:Int):=by omega
      go_wp2_with (at_builtin;go_must (refine ee _ rfl _ _ 26 rfl w.heap.size 3 (.int .i64 0) 1 8 underlying26 iK rfl (by decide) u3 pcRJ l v #[.int .i64 v] 3 rfl HBi rfl rfl ?_ (fun _ _=>rfl) HLL (by decide) qC ?_))
      all_goals first | (simp [Value.oneCell'];done) | skip
      intro v' w5 o8 pc hb5 rB _;have HB5:=n8 o8;have HX5:=n8 (Below.trans HEi2 hb5);clear o8 pc hb5;go_wp2_with fail;go_roundw
      case rel=>exact ⟨k+1,f,b.extract 0 f,l++[v],by first | rfl | (rw [<- HEX.out]),HNB.1,by omega,CJ,Hz,HNB.2,HX5,HB5,xp⟩
      case measure =>
       first
        | (show (b.extract 0 f).size<b.size;rw [HNB.out.1];omega)
        | (show ByteArray.empty.size<b.size;rw [HEX.out,HNB.out.1];omega)
  ·have sw:¬ (0:Int)<(b.size:Int):=by omega
   have HF:Hid (lv l=ak 0 s.data.toList):=by
    have:=HE.out;unfold Hid;rw [HS.out.2.2,show s.size-9*k=0 by omega,List.drop_zero]
   have HW:Hid (bE w.heap.size wo u3 l):=HB.ownJ;have HT:=n8 (mM w.heap.size l u3 wo HW HS.1);go_wp2_with fail;refine HT.mono ?_;rintro e' w' ⟨v',l',rfl,hr,kk,rfl⟩;have HR:=n8 hr;clear hr HT;go_wp2_with fail;go_ret;refine ⟨v',l',rfl,⟨HR.out.out.1,HR.out.out.2.1,HR.out.out.2.2.1.trans HF,?_⟩,aC.draws pP _⟩;have:=HR.out.out.2.2.2;have:=HS.2.1;have:=zm.out;omega
theorem C4_ (p q:List Nat) (u v:Value) (w:World) (hu:eS w u p) (hv:eS w v q) (hp:ai p) (hq:ai q) (tU:p.length<=100000) (hlq:q.length<=100000) :
  oW 132 #[u,v] w (.int .i64 (bj (lv p) (lv q))):=by
 obtain ⟨a,ca,rfl,qV,sV,qX⟩:=hu.open;obtain ⟨b,cb,rfl,hlb,tG,hcv⟩:=hv.open;have HP:=n8 hp;have HQ:=n8 hq;have HU:=n8 qX;have HV:=n8 hcv;clear hu hv qX hcv hp hq;by_cases hl:p.length=q.length
 ·have ya:((p.length:Int) != (q.length:Int))=false:=by simp [hl]
  have HL:=n8 hl;have FU:p.length<=q.length:=by omega
  have FT:q.length<=p.length:=by omega
  clear hl
  go_enter func132,ntmps132
  go_wp2_with fail
  go_loopw [5] (fun i wr=>∃ y:Int,i=.int .i64 y/\y<p.length/\-2<y/\Hid (∃ k:Nat,y+1=k/\k<=p.length/\p.drop k=q.drop k)/\aC w wr) (fun i _=>(intOf i+1).toNat)
  case atStart=>exact ⟨_,rfl,by omega,by omega,⟨p.length,by omega,oJ _,by rw [List.drop_length,HL.out,List.drop_length]⟩,aC.refl _⟩
  case round =>
   obtain ⟨y,rfl,rm,qg,HK,hE⟩:=hrel;obtain ⟨wo,rfl⟩:∃ wo:World,wo=wr:=⟨_,rfl⟩;by_cases h0:0<=y
   ·obtain ⟨k,rfl⟩:∃ k:Nat,y=k:=⟨y.toNat,by omega⟩;have AQ:k<p.length:=by omega
    have AP:k<q.length:=by omega
    obtain ⟨x,hx⟩:∃ x,p[k]?=some x:=⟨_,n9 AQ⟩;obtain ⟨z,hz⟩:∃ z,q[k]?=some z:=⟨_,n9 AP⟩;obtain ⟨ba,oa,rfl,-,qA⟩:=HU (by rintro rfl;simp at AQ);obtain ⟨bb,ob,rfl,-,rM⟩:=HV (by rintro rfl;simp at AP);have g1:=hE.cell (qA k x hx);have g2:=hE.cell (rM k z hz);have HD:Hid (p.drop (k+1)=q.drop (k+1)):=by
     obtain ⟨k',e,-,h⟩:=HK.out;have:k'=k+1:=by omega
     rw [this] at h;exact h
    have HX:=n8 hx;have HZ:=n8 hz;clear hx hz qA rM;rcases Nat.lt_trichotomy x z with tP | tP | tP
    ·have hb:decide (x<z)=true:=oS (by omega);have HR:=n8 (kx (e6_ HP.1 HQ.1 HX HZ HD tP));clear tP;go_wp2_with fail
     try (go_quiet (fail);go_wp2_with fail)
     go_ret;rw [HR.out];exact ⟨rfl,by first | exact hE | exact aC.draws hE _⟩
    ·subst tP;have hb:decide (x<x)=false:=oR (by omega);have HK2:Hid (∃ k':Nat,((k:Int)-1)+1=k'/\k'<=p.length/\p.drop k'=q.drop k'):=by
      refine ⟨k,by omega,by omega,?_⟩;show p.drop k=q.drop k;rw [List.drop_eq_getElem_cons AQ,List.drop_eq_getElem_cons AP,HD.out];congr 1;have h1:=(n_.1 HX).2;have h2:=(n_.1 HZ).2;rw [h1,h2]
     go_wp2_with fail
     try (go_quiet (fail);go_wp2_with fail)
     try (go_quiet (fail);go_wp2_with fail)
     go_roundw
     case rel=>exact ⟨_,rfl,by omega,by omega,HK2,by first | exact aC.draws (aC.draws hE _) _ | exact aC.draws hE _ | exact hE⟩
     case measure=>simp [intOf]
    ·have hb:decide (x<z)=false:=oR (by omega);have hb2:decide (z<x)=true:=oS (by omega);have HR:=n8 (mv (e6_ HQ.1 HP.1 HZ HX HD.symm tP));clear tP;go_wp2_with fail
     try (go_quiet (fail);go_wp2_with fail)
     try (go_quiet (fail);go_wp2_with fail)
     go_ret;rw [HR.out];exact ⟨rfl,by first | exact aC.draws (aC.draws hE _) _ | exact aC.draws hE _ | exact hE⟩
   ·have HR:Hid (bj (lv p) (lv q)=0):=by
     obtain ⟨k,e,-,h⟩:=HK.out;have:k=0:=by omega
     subst this;rw [List.drop_zero,List.drop_zero] at h;exact Z19 (by rw [h])
    go_wp2_with fail;go_ret;rw [HR.out];exact ⟨rfl,hE⟩
 ·have ya:((p.length:Int) != (q.length:Int))=true:=by simp;omega
  rcases Nat.lt_or_gt_of_ne hl with h | h
  ·have HR:=n8 (kx (ai.lt_of_length HP.1 HQ h));have hb:decide (p.length<q.length)=true:=oS h;rw [HR.out];clear HR hl
   go_enter func132,ntmps132
   go_wp2_with fail;go_ret;exact ⟨rfl,aC.refl _⟩
  ·have HR:=n8 (mv (ai.lt_of_length HQ.1 HP h));have hb:decide (p.length<q.length)=false:=oR (by omega);rw [HR.out];clear HR hl
   go_enter func132,ntmps132
   go_wp2_with fail;go_ret;exact ⟨rfl,aC.refl _⟩
theorem iW.over {p q L:List Nat} {i c:Nat} (h:iW p q i c L) (hp:aS p) (hq:aS q) (h1:p.length<i) (h2:q.length<i):c=0:=by
 have hv:=h.val;rw [List.take_of_length_le (by omega),List.take_of_length_le (by omega)] at hv;have a1:=eY hp;have a2:=eY hq;have a3:pB p.length<=pB (i-1):=x0_ (by omega);have a4:pB q.length<=pB (i-1):=x0_ (by omega);have a5:pB i=1000000000*pB (i-1):=by rw [<- er];congr 1;omega
 false_or_by_contra
 have:=h.le;have hc:c=1:=by omega
 rw [hc,a5] at hv;omega
theorem Z2x (p q:List Nat) (u v:Value) (w:World) (hu:eS w u p) (hv:eS w v q) (hp:aS p) (hq:aS q) (tU:p.length<=100000) (hlq:q.length<=100000) :
  Calls prog 131 #[u,v] w fun e w'=>∃ r l,e=.returned r/\Hid (bE w.heap.size w' r l/\aS l/\lv l=lv p+lv q/\l.length<=p.length+q.length+1)/\aC w w':=by
 obtain ⟨a,ca,rfl,qV,sV,qX⟩:=hu.open;obtain ⟨b,cb,rfl,hlb,tG,hcv⟩:=hv.open;have HP:=n8 hp;have HQ:=n8 hq;have HU:=n8 qX;have HV:=n8 hcv;have tM:Hid (aZ w w.heap.size 3 1 (.slice none 0 0) pcRJ []):=bE.build (bE.nil _ _);have HS0:=n8 (iW.start p q);clear hu hv qX hcv hp hq
 go_enter func131,ntmps131
 go_wp2_with fail
 go_loopw [5,6,7] (fun out s t wr=>∃ (i c:Nat) (L:List Nat),t=.int .i64 i/\s=.int .i64 c/\c<=1/\i<=p.length+q.length+1/\aC w wr/\Hid (aZ wr w.heap.size 3 1 out pcRJ L)/\Hid (iW p q i c L)) (fun _ _ t _=>p.length+q.length+1-(intOf t).toNat)
 case atStart=>exact ⟨0,0,[],rfl,rfl,by omega,by omega,aC.refl _,tM,HS0⟩
 case round =>
  obtain ⟨i,c,L,rfl,rfl,hc,hi,pP,HB,HS⟩:=hrel;obtain ⟨wo,rfl⟩:∃ wo:World,wo=wr:=⟨_,rfl⟩;clear tM HS0;have qC:w.heap.size<=wo.heap.size:=pP.size;have HLL:Hid (L.length<1000000):=by have:=HS.len;unfold Hid;omega
  have hbx:=lM HP i;have hby:=lM HQ i;have HNS:=n8 (fun s hs=>HS.step HP HQ (s:=s) hs);by_cases hend:p.length<=i/\q.length<=i/\c=0
  ·obtain ⟨h1,h2,rfl⟩:=hend;have q1:decide (i<p.length)=false:=oR (by omega);have q2:decide (i<q.length)=false:=oR (by omega);have HF:=n8 (HS.done h1 h2);have HO:=n8 HB.ownJ;have HL:=n8 HS.len;have HPC:=n8 HS.pcs;go_wp2_with fail;go_ret;exact ⟨_,L,rfl,⟨HO,HPC,HF,by rw [HL.out];exact hi⟩,pP⟩
  ·have zo:Hid (i+1<=p.length+q.length+1):=by
    unfold Hid
    false_or_by_contra
    have e:i=p.length+q.length+1:=by omega
    exact hend ⟨by omega,by omega,HS.over HP HQ (by omega) (by omega)⟩
   have hib:=zo.out;by_cases hA:i<p.length
   ·by_cases hB:i<q.length
    ·obtain ⟨b1,o1,rfl,-,pJ⟩:=HU (by rintro rfl;simp at hA);have g1:=pP.cell (pJ i _ (n9 hA));rw [<- jw (n9 hA)] at g1;obtain ⟨b2,o2,rfl,-,pT⟩:=HV (by rintro rfl;simp at hB);have g2:=pP.cell (pT i _ (n9 hB));rw [<- jw (n9 hB)] at g2;have q1:decide (i<p.length)=true:=oS hA;have q2:decide (i<q.length)=true:=oS hB;obtain ⟨s,hs⟩:∃ s,s=c+cG p i+cG q i:=⟨_,rfl⟩;have HNX:=n8 (HNS s hs);obtain ⟨x,hx⟩:∃ x,x=cG p i:=⟨_,rfl⟩;obtain ⟨y,hy⟩:∃ y,y=cG q i:=⟨_,rfl⟩;rw [<- hx,<- hy] at hs;rw [<- hx] at hbx g1;rw [<- hy] at hby g2;obtain ⟨m,hm⟩:∃ m,m=s%1000000000:=⟨_,rfl⟩;obtain ⟨d,hd⟩:∃ d,d=s / 1000000000:=⟨_,rfl⟩;rw [<- hm,<- hd] at HNX;have e3:(s:Int).tmod 1000000000=(m:Int):=by rw [Int.tmod_eq_emod_of_nonneg (by omega)];omega
     have e4:(s:Int).tdiv 1000000000=(d:Int):=by rw [Int.tdiv_eq_ediv_of_nonneg (by omega)];omega
     have ry:d<=1:=by omega
     have hmb:m<1000000000:=by omega
     have zC:s<2000000000:=by omega
     have e5:(c:Int)+(x:Int)+(y:Int)=(s:Int):=by omega
     clear hs hm hd hx hy hend;go_wp2_with (at_builtin;go_must (refine ee _ rfl _ _ 26 rfl w.heap.size 3 (.int .i64 0) 1 8 underlying26 iK rfl (by decide) u5 pcRJ L m #[.int .i64 m] 3 rfl HB rfl rfl ?_ (fun _ _=>rfl) HLL (by decide) qC ?_))
     all_goals first | (simp [Value.oneCell'];done) | skip
     intro v' w5 o8 pc hb5 rB _;have HB5:=n8 o8;have HX5:=n8 (Below.trans pP hb5);clear o8 pc hb5;go_wp2_with fail;go_roundw
     case rel=>exact ⟨i+1,d,_,by go_num,by first | rfl | go_num,by omega,hib,HX5,HB5,HNX⟩
     case measure=>simp [intOf];omega
    ·obtain ⟨b1,o1,rfl,-,pJ⟩:=HU (by rintro rfl;simp at hA);have g1:=pP.cell (pJ i _ (n9 hA));rw [<- jw (n9 hA)] at g1;have q1:decide (i<p.length)=true:=oS hA;have q2:decide (i<q.length)=false:=oR hB;have pR:cG q i=0:=kT (by omega);obtain ⟨s,hs⟩:∃ s,s=c+cG p i+cG q i:=⟨_,rfl⟩;have HNX:=n8 (HNS s hs);obtain ⟨x,hx⟩:∃ x,x=cG p i:=⟨_,rfl⟩;obtain ⟨y,hy⟩:∃ y,y=cG q i:=⟨_,rfl⟩;rw [<- hx,<- hy] at hs;rw [<- hx] at hbx g1;rw [<- hy] at hby
     obtain ⟨m,hm⟩:∃ m,m=s%1000000000:=⟨_,rfl⟩;obtain ⟨d,hd⟩:∃ d,d=s / 1000000000:=⟨_,rfl⟩;rw [<- hm,<- hd] at HNX;have e3:(s:Int).tmod 1000000000=(m:Int):=by rw [Int.tmod_eq_emod_of_nonneg (by omega)];omega
     have e4:(s:Int).tdiv 1000000000=(d:Int):=by rw [Int.tdiv_eq_ediv_of_nonneg (by omega)];omega
     have ry:d<=1:=by omega
     have hmb:m<1000000000:=by omega
     have zC:s<2000000000:=by omega
     have e5:(c:Int)+(x:Int)=(s:Int):=by omega
     clear hs hm hd hx hy hend;go_wp2_with (at_builtin;go_must (refine ee _ rfl _ _ 26 rfl w.heap.size 3 (.int .i64 0) 1 8 underlying26 iK rfl (by decide) u5 pcRJ L m #[.int .i64 m] 3 rfl HB rfl rfl ?_ (fun _ _=>rfl) HLL (by decide) qC ?_))
     all_goals first | (simp [Value.oneCell'];done) | skip
     intro v' w5 o8 pc hb5 rB _;have HB5:=n8 o8;have HX5:=n8 (Below.trans pP hb5);clear o8 pc hb5;go_wp2_with fail;go_roundw
     case rel=>exact ⟨i+1,d,_,by go_num,by first | rfl | go_num,by omega,hib,HX5,HB5,HNX⟩
     case measure=>simp [intOf];omega
   ·by_cases hB:i<q.length
    ·obtain ⟨b2,o2,rfl,-,pT⟩:=HV (by rintro rfl;simp at hB);have g2:=pP.cell (pT i _ (n9 hB));rw [<- jw (n9 hB)] at g2;have q1:decide (i<p.length)=false:=oR hA;have q2:decide (i<q.length)=true:=oS hB;have pE:cG p i=0:=kT (by omega);obtain ⟨s,hs⟩:∃ s,s=c+cG p i+cG q i:=⟨_,rfl⟩;have HNX:=n8 (HNS s hs);obtain ⟨x,hx⟩:∃ x,x=cG p i:=⟨_,rfl⟩;obtain ⟨y,hy⟩:∃ y,y=cG q i:=⟨_,rfl⟩;rw [<- hx,<- hy] at hs;rw [<- hx] at hbx;rw [<- hy] at hby g2;obtain ⟨m,hm⟩:∃ m,m=s%1000000000:=⟨_,rfl⟩;obtain ⟨d,hd⟩:∃ d,d=s / 1000000000:=⟨_,rfl⟩;rw [<- hm,<- hd] at HNX;have e3:(s:Int).tmod 1000000000=(m:Int):=by rw [Int.tmod_eq_emod_of_nonneg (by omega)];omega
     have e4:(s:Int).tdiv 1000000000=(d:Int):=by rw [Int.tdiv_eq_ediv_of_nonneg (by omega)];omega
     have ry:d<=1:=by omega
     have hmb:m<1000000000:=by omega
     have zC:s<2000000000:=by omega
     have e5:(c:Int)+(y:Int)=(s:Int):=by omega
     clear hs hm hd hx hy hend;go_wp2_with (at_builtin;go_must (refine ee _ rfl _ _ 26 rfl w.heap.size 3 (.int .i64 0) 1 8 underlying26 iK rfl (by decide) u5 pcRJ L m #[.int .i64 m] 3 rfl HB rfl rfl ?_ (fun _ _=>rfl) HLL (by decide) qC ?_))
     all_goals first | (simp [Value.oneCell'];done) | skip
     intro v' w5 o8 pc hb5 rB _;have HB5:=n8 o8;have HX5:=n8 (Below.trans pP hb5);clear o8 pc hb5;go_wp2_with fail;go_roundw
     case rel=>exact ⟨i+1,d,_,by go_num,by first | rfl | go_num,by omega,hib,HX5,HB5,HNX⟩
     case measure=>simp [intOf];omega
    ·have q1:decide (i<p.length)=false:=oR hA;have q2:decide (i<q.length)=false:=oR hB;have pE:cG p i=0:=kT (by omega);have pR:cG q i=0:=kT (by omega);have pJ:c=1:=by omega
     subst pJ;obtain ⟨s,hs⟩:∃ s,s=1+cG p i+cG q i:=⟨_,rfl⟩;have HNX:=n8 (HNS s hs);obtain ⟨x,hx⟩:∃ x,x=cG p i:=⟨_,rfl⟩;obtain ⟨y,hy⟩:∃ y,y=cG q i:=⟨_,rfl⟩;rw [<- hx,<- hy] at hs;rw [<- hx] at hbx;rw [<- hy] at hby
     obtain ⟨m,hm⟩:∃ m,m=s%1000000000:=⟨_,rfl⟩;obtain ⟨d,hd⟩:∃ d,d=s / 1000000000:=⟨_,rfl⟩;rw [<- hm,<- hd] at HNX;have e3:(s:Int).tmod 1000000000=(m:Int):=by rw [Int.tmod_eq_emod_of_nonneg (by omega)];omega
     have e4:(s:Int).tdiv 1000000000=(d:Int):=by rw [Int.tdiv_eq_ediv_of_nonneg (by omega)];omega
     have ry:d<=1:=by omega
     have hmb:m<1000000000:=by omega
     have zC:s<2000000000:=by omega
     have e5:s=1:=by omega
     subst e5;have e6:m=1:=by omega
     have e7:d=0:=by omega
     subst e6 e7;clear hm hd hx hy hend hs;go_wp2_with (at_builtin;go_must (refine ee _ rfl _ _ 26 rfl w.heap.size 3 (.int .i64 0) 1 8 underlying26 iK rfl (by decide) u5 pcRJ L 1 #[.int .i64 1] 3 rfl HB rfl rfl ?_ (fun _ _=>rfl) HLL (by decide) qC ?_))
     all_goals first | (simp [Value.oneCell'];done) | skip
     intro v' w5 o8 pc hb5 rB _;have HB5:=n8 o8;have HX5:=n8 (Below.trans pP hb5);clear o8 pc hb5;go_wp2_with fail;go_roundw
     case rel=>exact ⟨i+1,0,_,by go_num,by first | rfl | go_num,by omega,hib,HX5,HB5,HNX⟩
     case measure=>simp [intOf];omega
theorem O0_ (p q:List Nat) (u v:Value) (w:World) (hu:eS w u p) (hv:eS w v q) (hp:ai p) (hq:ai q) (hle:lv q<=lv p) (tU:p.length<=100000) :
  Calls prog 133 #[u,v] w fun e w'=>∃ r l,e=.returned r/\Hid (bE w.heap.size w' r l/\ai l/\lv l=lv p-lv q/\l.length<=p.length)/\aC w w':=by
 have hlq:=ai.length_le hq hp hle;obtain ⟨a,ca,rfl,qV,sV,qX⟩:=hu.open;obtain ⟨b,cb,rfl,hlb,tG,hcv⟩:=hv.open;have HP:=n8 hp;have HQ:=n8 hq;have HU:=n8 qX;have HV:=n8 hcv;have HLE:=n8 hle;have tM:Hid (aZ w w.heap.size 3 1 (.slice none 0 0) pcRJ []):=bE.build (bE.nil _ _);have HS0:=n8 (jf.start p q);clear hu hv qX hcv hp hq hle
 go_enter func133,ntmps133
 go_wp2_with fail
 go_loopw [5,6,7] (fun out s t wr=>∃ (i c:Nat) (L:List Nat),t=.int .i64 i/\s=.int .i64 c/\c<=1/\i<=p.length/\aC w wr/\Hid (aZ wr w.heap.size 3 1 out pcRJ L)/\Hid (jf p q i c L)) (fun _ _ t _=>p.length-(intOf t).toNat)
 case atStart=>exact ⟨0,0,[],rfl,rfl,by omega,by omega,aC.refl _,tM,HS0⟩
 case round =>
  obtain ⟨i,c,L,rfl,rfl,hc,hi,pP,HB,HS⟩:=hrel;obtain ⟨wo,rfl⟩:∃ wo:World,wo=wr:=⟨_,rfl⟩;clear tM HS0;have qC:w.heap.size<=wo.heap.size:=pP.size;have HLL:Hid (L.length<1000000):=by have:=HS.len;unfold Hid;omega
  by_cases hA:i<p.length
  ·have hbx:=lM HP.1 i;have hby:=lM HQ.1 i;have HNS:=n8 (fun x b' h1 h2 h3=>HS.step (x:=x) (b':=b') h1 h2 h3);obtain ⟨b1,o1,rfl,-,pJ⟩:=HU (by rintro rfl;simp at hA);have g1:=pP.cell (pJ i _ (n9 hA));rw [<- jw (n9 hA)] at g1;obtain ⟨x,hx⟩:∃ x,x=cG p i:=⟨_,rfl⟩;obtain ⟨y,hy⟩:∃ y,y=cG q i:=⟨_,rfl⟩;rw [<- hx] at hbx g1 HNS;rw [<- hy] at hby HNS;have HY:=n8 hy;clear hx hy pJ;by_cases hB:i<q.length
   ·obtain ⟨b2,o2,rfl,-,pT⟩:=HV (by rintro rfl;simp at hB);have g2:=pP.cell (pT i _ (n9 hB));rw [<- jw (n9 hB),<- HY.out] at g2;clear pT;have q2:decide (i<q.length)=true:=oS hB;by_cases hneg:(x:Int)-(c:Int)-(y:Int)<0
    ·obtain ⟨m,hm⟩:∃ m:Nat,(x:Int)-(c:Int)-(y:Int)+1000000000=(m:Int):=⟨((x:Int)-(c:Int)-(y:Int)+1000000000).toNat,by omega⟩;have HNX:=n8 (HNS m 1 (by omega) (by omega) (by omega));have hmb:m<1000000000:=by omega
     go_wp2_with (at_builtin;go_must (refine ee _ rfl _ _ 26 rfl w.heap.size 3 (.int .i64 0) 1 8 underlying26 iK rfl (by decide) u5 pcRJ L m #[.int .i64 m] 3 rfl HB rfl rfl ?_ (fun _ _=>rfl) HLL (by decide) qC ?_))
     all_goals first | (simp [Value.oneCell'];done) | skip
     intro v' w5 o8 pc hb5 rB _;have HB5:=n8 o8;have HX5:=n8 (Below.trans pP hb5);clear o8 pc hb5;go_wp2_with fail;go_roundw
     case rel=>exact ⟨i+1,1,_,by go_num,by first | rfl | go_num,by omega,by omega,HX5,HB5,HNX⟩
     case measure=>simp [intOf];omega
    ·obtain ⟨m,hm⟩:∃ m:Nat,(x:Int)-(c:Int)-(y:Int)=(m:Int):=⟨((x:Int)-(c:Int)-(y:Int)).toNat,by omega⟩;have Cp:¬ (m:Int)<0:=by omega
     have HNX:=n8 (HNS m 0 (by omega) (by omega) (by omega));have hmb:m<1000000000:=by omega
     go_wp2_with (at_builtin;go_must (refine ee _ rfl _ _ 26 rfl w.heap.size 3 (.int .i64 0) 1 8 underlying26 iK rfl (by decide) u5 pcRJ L m #[.int .i64 m] 3 rfl HB rfl rfl ?_ (fun _ _=>rfl) HLL (by decide) qC ?_))
     all_goals first | (simp [Value.oneCell'];done) | skip
     intro v' w5 o8 pc hb5 rB _;have HB5:=n8 o8;have HX5:=n8 (Below.trans pP hb5);clear o8 pc hb5;go_wp2_with fail;go_roundw
     case rel=>exact ⟨i+1,0,_,by go_num,by first | rfl | go_num,by omega,by omega,HX5,HB5,HNX⟩
     case measure=>simp [intOf];omega
   ·have pR:y=0:=by rw [HY.out];exact kT (by omega)
    subst pR;have q2:decide (i<q.length)=false:=oR hB;by_cases hneg:(x:Int)-(c:Int)<0
    ·obtain ⟨m,hm⟩:∃ m:Nat,(x:Int)-(c:Int)+1000000000=(m:Int):=⟨((x:Int)-(c:Int)+1000000000).toNat,by omega⟩;have HNX:=n8 (HNS m 1 (by omega) (by omega) (by omega));have hmb:m<1000000000:=by omega
     go_wp2_with (at_builtin;go_must (refine ee _ rfl _ _ 26 rfl w.heap.size 3 (.int .i64 0) 1 8 underlying26 iK rfl (by decide) u5 pcRJ L m #[.int .i64 m] 3 rfl HB rfl rfl ?_ (fun _ _=>rfl) HLL (by decide) qC ?_))
     all_goals first | (simp [Value.oneCell'];done) | skip
     intro v' w5 o8 pc hb5 rB _;have HB5:=n8 o8;have HX5:=n8 (Below.trans pP hb5);clear o8 pc hb5;go_wp2_with fail;go_roundw
     case rel=>exact ⟨i+1,1,_,by go_num,by first | rfl | go_num,by omega,by omega,HX5,HB5,HNX⟩
     case measure=>simp [intOf];omega
    ·obtain ⟨m,hm⟩:∃ m:Nat,(x:Int)-(c:Int)=(m:Int):=⟨((x:Int)-(c:Int)).toNat,by omega⟩;have Cp:¬ (m:Int)<0:=by omega
     have HNX:=n8 (HNS m 0 (by omega) (by omega) (by omega));have hmb:m<1000000000:=by omega
     go_wp2_with (at_builtin;go_must (refine ee _ rfl _ _ 26 rfl w.heap.size 3 (.int .i64 0) 1 8 underlying26 iK rfl (by decide) u5 pcRJ L m #[.int .i64 m] 3 rfl HB rfl rfl ?_ (fun _ _=>rfl) HLL (by decide) qC ?_))
     all_goals first | (simp [Value.oneCell'];done) | skip
     intro v' w5 o8 pc hb5 rB _;have HB5:=n8 o8;have HX5:=n8 (Below.trans pP hb5);clear o8 pc hb5;go_wp2_with fail;go_roundw
     case rel=>exact ⟨i+1,0,_,by go_num,by first | rfl | go_num,by omega,by omega,HX5,HB5,HNX⟩
     case measure=>simp [intOf];omega
  ·obtain rfl:p.length=i:=by omega
   have HF:=n8 (HS.done HP.1 hlq HLE);have HW:Hid (bE w.heap.size wo u5 L):=HB.ownJ;have HT:=n8 (mM w.heap.size L u5 wo HW HS.pcs);have HL:=n8 HS.len;go_wp2_with fail;refine HT.mono ?_;rintro e' w' ⟨v',l',rfl,hr,kk,rfl⟩;have HR:=n8 hr;clear hr HT;go_wp2_with fail;go_ret;exact ⟨v',l',rfl,⟨HR.out.out.1,HR.out.out.2.1,HR.out.out.2.2.1.trans HF.1,by rw [<- HL.out];exact HR.out.out.2.2.2⟩,aC.draws pP _⟩
theorem Z6m (a b:ByteArray):(a++b).data.toList=a.data.toList++b.data.toList:=by simp [ByteArray.data_append]
theorem m2_ {a b c:ByteArray} (h:a.data.toList++b.data.toList=c.data.toList):a++b=c:=by
 have e:=(Z6m a b).trans h;generalize a++b=x at *
 cases x;cases c;congr 1;exact Array.toList_inj.1 e
theorem E8_ {w w':World} (h:w.grownBy w' none):aC w w':=⟨h.os,h.tape,h.output,h.size,fun k hk=>h.block k hk (by simp)⟩
theorem Z0o {a b:Nat} (ha:a<1000000000) (hb:b<1000000000):a*b<=999999998000000001:=by
 have:a*b<=999999999*999999999:=Nat.mul_le_mul (by omega) (by omega);omega
theorem O1_ (p q:List Nat) (u v:Value) (w:World) (hu:eS w u p) (hv:eS w v q) (hp:aS p) (hq:aS q) (tU:p.length<=50000) (hlq:q.length<=50000) :
  Calls prog 129 #[u,v] w fun e w'=>∃ r l,e=.returned r/\Hid (bE w.heap.size w' r l/\ai l/\lv l=lv p*lv q/\l.length<=p.length+q.length+1)/\aC w w':=by
 obtain ⟨a,ca,rfl,qV,sV,qX⟩:=hu.open;obtain ⟨b,cb,rfl,hlb,tG,hcv⟩:=hv.open;have HP:=n8 hp;have HQ:=n8 hq;have HU:=n8 qX;have HV:=n8 hcv;obtain ⟨i0,hi,pH,hz1,hz2⟩:=info_parts iK;have HI:=n8 hi;have HZ0:=n8 pH;have HZ1:=n8 hz1;have HZ2:=n8 hz2;obtain ⟨n,hn⟩:∃ n:Nat,n=p.length+q.length+1:=⟨_,rfl⟩;have Bb:(p.length:Int)+(q.length:Int)+1=(n:Int):=by omega
 have Bc:n<=100001:=by omega
 have hnp:p.length<=n:=by omega
 have Co:q.length<=n:=by omega
 have HN:=n8 hn;clear hi pH hz1 hz2 hu hv qX hcv hp hq hn
 go_enter func129,ntmps129
 go_wp2_with (at_make;refine wpList_make_full _ rfl _ _ 26 rfl w.heap.size 3 i0 (.int .i64 0) 1 underlying26 HI HZ0 HZ1 _ _ _ _ n rfl rfl rfl rfl ?c1 ?c2 ?c3 ?_)
 case c1=>rw [HZ2.out];omega
 case c2=>unfold maxLen;omega
 case c3=>exact oJ _
 intro w1 hown oe;have hE1:=E8_ oe;have HO0:=n8 (bE.made hown);have HS0:Hid (j7 p q 0 (List.replicate n 0)):=by unfold Hid;rw [HN.out];exact j7.start p q
 clear hown oe;go_wp2_with fail
 go_loopw [6] (fun t wr=>∃ (i:Nat) (L:List Nat),i<=p.length/\t=.int .i64 i/\aC w wr/\Hid (bE w.heap.size wr (.slice (some ⟨w.heap.size,0,none⟩) n n) L)/\Hid (j7 p q i L)) (fun t _=>p.length-(intOf t).toNat)
 case atStart=>exact ⟨0,_,by omega,rfl,hE1,HO0,HS0⟩
 case round =>
  obtain ⟨i,L,hi,rfl,pP,HO,HS⟩:=hrel;obtain ⟨wo,rfl⟩:∃ wo:World,wo=wr:=⟨_,rfl⟩;clear HO0 HS0;by_cases hlt:i<p.length
  ·obtain ⟨x,hx⟩:∃ x,p[i]?=some x:=⟨_,n9 hlt⟩;obtain ⟨ba,oa,rfl,-,qA⟩:=HU (by rintro rfl;simp at hlt);have GX:=n8 (qA i x hx);have hxb:=HP.get hx;have HX:=n8 hx;have HK0:=n8 (HS.enter x);clear hx qA;go_wp2_with fail
   go_loopw [8,7] (fun t c wr=>∃ (k cc:Nat) (L:List Nat),k<=n/\t=.int .i64 k/\c=.int .i64 cc/\cc<1000000000/\aC w wr/\Hid (bE w.heap.size wr (.slice (some ⟨w.heap.size,0,none⟩) n n) L)/\Hid (ia p q i x k cc L)) (fun t _ _=>n-(intOf t).toNat)
   case atStart=>exact ⟨0,0,L,by omega,rfl,rfl,by omega,pP,HO,HK0⟩
   case round =>
    obtain ⟨k,cc,L',hk,rfl,rfl,pd,tK,HOi,tz⟩:=hrel;obtain ⟨wi,rfl⟩:∃ wi:World,wi=wr:=⟨_,rfl⟩;have g1:=tK.cell GX.out;have Bt:Hid (L'.length=n):=by unfold Hid;rw [tz.out.len,HN.out]
    by_cases tZ:k<q.length\/0<cc
    ·have HRM:Hid (i+k<n):=by unfold Hid;rw [HN.out];exact tz.room HP HQ HX tZ
     have hik:=HRM.out;obtain ⟨y,hy⟩:∃ y,L'[i+k]?=some y:=⟨_,n9 (by have:=Bt.out;omega)⟩;obtain ⟨g3,f3⟩:=HOi.get hy;have hyb:=tz.pcs.get hy;have qC:w.heap.size<=wi.heap.size:=tK.size;by_cases hkl:k<q.length
     ·obtain ⟨z,hz⟩:∃ z,q[k]?=some z:=⟨_,n9 hkl⟩;obtain ⟨bb,ob,rfl,-,rM⟩:=HV (by rintro rfl;simp at hkl);have g2:=tK.cell (rM k z hz);have hzb:=HQ.get hz;have hm:=Z0o hxb hzb;obtain ⟨m,hmm⟩:∃ m,x*z=m:=⟨_,rfl⟩;rw [hmm] at hm;have xF:(x:Int)*(z:Int)=(m:Int):=by rw [<- hmm];exact (Int.natCast_mul _ _).symm
      obtain ⟨t1,EM⟩:∃ t,t=y+cc:=⟨_,rfl⟩;have y9:(y:Int)+(cc:Int)=(t1:Int):=by omega
      obtain ⟨c',qj⟩:∃ c',c'=cc+y+m:=⟨_,rfl⟩;have Ef:(t1:Int)+(m:Int)=(c':Int):=by omega
      obtain ⟨r,hr⟩:∃ r,r=c'%1000000000:=⟨_,rfl⟩;obtain ⟨d,hd⟩:∃ d,d=c' / 1000000000:=⟨_,rfl⟩;have qD:(c':Int).tmod 1000000000=(r:Int):=by rw [Int.tmod_eq_emod_of_nonneg (by omega)];omega
      have sH:(c':Int).tdiv 1000000000=(d:Int):=by rw [Int.tdiv_eq_ediv_of_nonneg (by omega)];omega
      have ry:d<1000000000:=by omega
      have C9:c'<1000000000000000000:=by omega
      have AB:r<1000000000:=by omega
      have FE:t1<2000000000:=by omega
      have HK2:Hid (ia p q i x (k+1) d (L'.set (i+k) r)):=by
       unfold Hid;rw [hd];exact tz.step hy hxb HQ (by rw [qj,jw hz,hmm]) hr
      have HO2:=n8 (HOi.set (i+k) r);clear hz hy rM hmm qj hr hd EM tZ;go_wp2_with fail
      try (go_quiet (fail);go_wp2_with fail)
      go_roundw
      case rel=>exact ⟨k+1,d,_,by omega,by go_num,by first | rfl | go_num,ry,by first | exact Below.setCell tK (p:=⟨w.heap.size,i+k,none⟩) (oJ _) _ | exact Below.setCell (aC.draws tK _) (p:=⟨w.heap.size,i+k,none⟩) (oJ _) _,HO2,HK2⟩
      case measure=>simp [intOf];omega
     ·have xR:(0:Int)<(cc:Int):=by omega
      obtain ⟨t1,EM⟩:∃ t,t=y+cc:=⟨_,rfl⟩;have y9:(y:Int)+(cc:Int)=(t1:Int):=by omega
      obtain ⟨r,hr⟩:∃ r,r=t1%1000000000:=⟨_,rfl⟩;obtain ⟨d,hd⟩:∃ d,d=t1 / 1000000000:=⟨_,rfl⟩;have qD:(t1:Int).tmod 1000000000=(r:Int):=by rw [Int.tmod_eq_emod_of_nonneg (by omega)];omega
      have sH:(t1:Int).tdiv 1000000000=(d:Int):=by rw [Int.tdiv_eq_ediv_of_nonneg (by omega)];omega
      have ry:d<1000000000:=by omega
      have AB:r<1000000000:=by omega
      have FE:t1<2000000000:=by omega
      have HK2:Hid (ia p q i x (k+1) d (L'.set (i+k) r)):=by
       unfold Hid;rw [hd];exact tz.step hy hxb HQ (by rw [EM,kT (by omega)];omega) hr
      have HO2:=n8 (HOi.set (i+k) r);clear hy hr hd EM tZ;go_wp2_with fail;go_roundw
      case rel=>exact ⟨k+1,d,_,by omega,by go_num,by first | rfl | go_num,ry,Below.setCell tK (p:=⟨w.heap.size,i+k,none⟩) (oJ _) _,HO2,HK2⟩
      case measure=>simp [intOf];omega
    ·have xR:cc=0:=by omega
     subst xR;have hkl:¬ k<q.length:=fun h=>tZ (.inl h);have HS2:=n8 (tz.leave (by omega) HX);clear tZ;go_wp2_with fail;go_roundw
     case rel=>exact ⟨i+1,_,by omega,by go_num,tK,HOi,HS2⟩
     case measure=>simp [intOf];omega
  ·obtain rfl:p.length=i:=by omega
   have HT:=n8 (mM w.heap.size L _ wo HO HS.pcs);have HV:=HS.val;rw [List.take_length] at HV;have HV:=n8 HV;have HL:=n8 HS.len;go_wp2_with fail;refine HT.mono ?_;rintro e w5 ⟨r,l,rfl,hr,kk,rfl⟩;have HR:=n8 hr;clear hr HT;go_wp2_with fail;go_ret;exact ⟨r,l,rfl,⟨HR.out.out.1,HR.out.out.2.1,HR.out.out.2.2.1.trans HV,by rw [<- HL.out];exact HR.out.out.2.2.2⟩,aC.draws pP _⟩
theorem Z20 {l:List Nat} (h:aS l):lv l<10^(9*l.length):=by rw [<- Z2j];exact eY h
theorem I2_ {l:List Nat} (h:aS l) (hl:l≠[]):(aE (lv l)).size<=9*l.length:=by
 rw [dz];exact lH _ _ (Z20 h) (by have:=List.length_pos_iff.2 hl;omega)
theorem ai.drop {l:List Nat} (h:ai l) {k:Nat} (hk:k<l.length):ai (l.drop k):=by
 refine ⟨h.1.drop k,fun x hx=>?_⟩;rw [List.length_drop,oT,show k+(l.length-k-1)=l.length-1 by omega] at hx;exact h.2 x hx
theorem p4_ (l:List Nat) (v:Value) (w:World) (h:eS w v l) (hc:ai l) (hlen:l.length<=100000) (ht:af w) :
  oW 180 #[v] w (.string (aE (lv l))):=by
 obtain ⟨a,cap,rfl,hl,qb,hcell⟩:=h.open;have HX:=n8 hcell;have HC:=n8 hc;have HT:=n8 ht;clear h hcell hc ht;by_cases hn:l=[]
 ·subst hn;have HF:Hid (aE (lv [])=⟨#[48]⟩):=by unfold Hid aE;rw [dL,Lib.decDigits_one (by omega)];rfl
  rw [HF.out]
  go_enter func180,ntmps180
  go_wp2_with fail;go_ret;exact ⟨rfl,aC.refl _⟩
 ·obtain ⟨b,off,rfl,hb,hcell⟩:=HX hn;have HCELL:=n8 hcell;have pK:0<l.length:=List.length_pos_iff.2 hn;have Ba:((l.length:Int) == 0)=false:=by rw [beq_eq_false_iff_ne];omega
  obtain ⟨x0,pE⟩:∃ x,l[l.length-1]?=some x:=⟨_,n9 (by omega)⟩;have g0:=hcell _ _ pE;have hx0b:=HC.1.get pE;have wJ:(0:Int)<=(l.length:Int)-1:=by omega
  have sR:((l.length:Int)-1).toNat=l.length-1:=by omega
  have H1:=n8 (l9 (x0:Int) w (by omega) (by omega) HT);have HD0:Hid (aD (x0:Int)=aE (lv (l.drop (l.length-1)))):=by
   unfold Hid;rw [dC _ (by omega),ek pE,List.drop_eq_nil_of_le (by omega),dL];congr 1
  clear hcell HX pE hn
  go_enter func180,ntmps180
  go_wp2_with fail;refine H1.mono ?_;rintro e w1 ⟨rfl,hE1⟩;have HE1:=n8 hE1;rw [HD0.out];clear hE1 g0 H1;go_wp2_with fail
  go_loopw [4,3] (fun t s wr=>∃ (k:Nat),t=.int .i64 ((k:Int)-1)/\k+1<=l.length/\s=.string (aE (lv (l.drop k)))/\Hid (aC w wr)) (fun t _ _=>(intOf t+1).toNat)
  case atStart=>exact ⟨l.length-1,by congr 1;omega,by omega,rfl,by first | exact HE1 | exact HE1.trans (aC.drew _)⟩
  case round =>
   obtain ⟨k1,rfl,hk,rfl,HE⟩:=hrel;obtain ⟨wo,rfl⟩:∃ wo:World,wo=wr:=⟨_,rfl⟩;by_cases rR:0<k1
   ·obtain ⟨k,rfl⟩:∃ k,k1=k+1:=⟨k1-1,by omega⟩;have e1:((k+1:Nat):Int)-1=(k:Int):=by omega
    rw [e1];obtain ⟨x,hx⟩:∃ x,l[k]?=some x:=⟨_,n9 (by omega)⟩;have g1:=HE.cell (HCELL k x hx);have hxb:=HC.1.get hx;have HX:=n8 hx;have H2:=n8 (l9 (x:Int) wo (by omega) (by omega) (HT.ext HE));have hkl:k<l.length:=by omega
    have HSZ:Hid ((aE (lv (l.drop (k+1)))).size<=900000):=by
     unfold Hid;have h1:=I2_ (HC.1.drop (k+1)) (by intro e;have:=congrArg List.length e;rw [List.length_drop] at this;simp at this;omega);rw [List.length_drop] at h1;omega
    have rP:Hid (Lib.decDigits (lv (l.drop k))=Lib.decDigits (lv (l.drop (k+1)))++i_ x):=by
     unfold Hid;rw [ek hx];refine a9_ ?_ hxb;have h1:=(HC.drop (k:=k+1) (by omega)).ge (by intro e;have:=congrArg List.length e;rw [List.length_drop] at this;simp at this;omega);have:=kS ((l.drop (k+1)).length-1);omega
    clear hx e1;obtain ⟨S,hS⟩:∃ S,S=aE (lv (l.drop (k+1))):=⟨_,rfl⟩;rw [<- hS] at HSZ |-;have Mn:Hid (S.data.toList=Lib.decDigits (lv (l.drop (k+1)))):=by unfold Hid;rw [hS,ep]
    have hsz:=HSZ.out;clear hS;go_wp2_with fail;refine H2.mono ?_;rintro e w2 ⟨rfl,oY⟩;have HE2:=n8 (HE.trans oY);clear oY g1 H2;go_wp2_with fail;have KT:Hid ((aD (x:Int)).data.toList=Lib.decDigits x):=by
     unfold Hid;rw [dC _ (by omega),ep];rfl
    have yL:Hid ((Lib.decDigits x).length<=9):=by
     unfold Hid;rw [Lib.decDigits_length];exact lH x 9 (by rw [show (10:Nat)^9=1000000000 by decide];exact hxb) (by omega)
    go_loopw [5] (fun t wr=>∃ (j:Nat) (b5:ByteArray),t=.string b5/\j<=9/\b5.size<=9/\Hid (b5.data.toList=List.replicate j 48++Lib.decDigits x)/\Hid (aC w2 wr)) (fun t _=>match t with | .string b=>9-b.size | _=>0)
    case atStart=>exact ⟨0,_,rfl,by omega,by rw [Lib.size_eq,KT.out];exact yL,by unfold Hid;rw [KT.out];rfl,by first | exact aC.refl _ | exact aC.drew _⟩
    case round =>
     obtain ⟨j,b5,rfl,hj,hb5,HBD,HEX⟩:=hrel;obtain ⟨wi,rfl⟩:∃ wi:World,wi=wr:=⟨_,rfl⟩;by_cases hlt:b5.size<9
     ·have AM:(b5.size:Int)<9:=by omega
      have z1:¬ 9223372036854775807<1+b5.size:=by omega
      have M0:Hid (j+1<=9):=by
       unfold Hid;have:=congrArg List.length HBD;rw [<- Lib.size_eq,oU,List.length_replicate] at this;omega
      have hnj:=M0.out;have HBN:Hid (((⟨#[48]⟩:ByteArray)++b5).data.toList=List.replicate (j+1) 48++Lib.decDigits x):=by
       unfold Hid;rw [Z6m,HBD.out,List.replicate_succ];rfl
      have HBS:Hid (((⟨#[48]⟩:ByteArray)++b5).size=b5.size+1):=by
       unfold Hid;rw [Lib.size_eq,Z6m,oU,Lib.size_eq];show 1+_=_;omega
      go_wp2_with fail;go_roundw
      case rel=>exact ⟨j+1,_,rfl,hnj,by rw [HBS.out];omega,HBN,by first | exact HEX | exact HEX.trans (aC.drew _)⟩
      case measure=>show 9-((⟨#[48]⟩:ByteArray)++b5).size<9-b5.size;rw [HBS.out];omega
     ·have AM:¬ (b5.size:Int)<9:=by omega
      have z1:¬ 9223372036854775807<S.size+b5.size:=by omega
      have Ho:Hid (b5.data.toList=i_ x):=by
       unfold Hid i_;rw [HBD.out];have:=congrArg List.length HBD;rw [<- Lib.size_eq,oU,List.length_replicate] at this;congr 2;omega
      have xp:Hid (S++b5=aE (lv (l.drop k))):=by
       unfold Hid;exact m2_ (by rw [ep,rP.out,<- Mn.out,<- Ho.out])
      have HEW:=n8 (HE2.trans HEX);go_wp2_with fail;go_roundw
      case rel=>exact ⟨k,by first | rfl | go_num,by omega,by rw [xp.out],HEW⟩
      case measure=>first | (simp [intOf];done) | (simp [intOf];omega)
   ·obtain rfl:k1=0:=by omega
    go_wp2_with fail;go_ret;exact ⟨by rw [List.drop_zero];rfl,HE⟩
def dc (b:Bool) (u:Nat):Int:=if b then -(u:Int) else u
theorem mK (B:Nat) (neg:Bool) (l:List Nat) (v:Value) (w:World) (h:bE B w v l) (hp:aS l) (hlen:l.length<=100000) (ht:af w) :
  oW 127 #[.bool neg,v] w (.string (aD (dc neg (lv l)))):=by
 have H1:=n8 (mM B l v w h hp);have HT:=n8 ht;clear h ht;cases neg with
 | false =>
  have HR:Hid (aD (dc false (lv l))=aE (lv l)):=by
   unfold Hid dc;rw [if_neg (by decide),dC _ (by omega)];congr 1
  rw [HR.out]
  go_enter func127,ntmps127
  go_wp2_with fail;refine H1.mono ?_;rintro e w1 ⟨v',l',rfl,hr,kk,rfl⟩;have HRR:=n8 hr;have H2:=n8 (p4_ l' v' (w.drewN kk) hr.out.1.at hr.out.2.1 (by have:=hr.out.2.2.2;omega) (HT.ext (aC.draws (aC.refl _) _)));rw [hr.out.2.2.1] at H2;clear hr H1;go_wp2_with fail;refine H2.mono ?_;rintro e w2 ⟨rfl,oY⟩;have HE2:=n8 (aC.trans (aC.draws (aC.refl _) _) oY);clear oY H2;go_wp2_with fail;go_ret;exact ⟨rfl,HE2⟩
 | true =>
  have HZ:Hid (lv l=0->aD (dc true (lv l))=aE (lv l)):=by
   intro e;unfold dc;rw [if_pos rfl,e,dC _ (by omega)];congr 1
  have HN:Hid (lv l≠0->(⟨#[45]⟩:ByteArray)++aE (lv l)=aD (dc true (lv l))):=by
   intro e;refine m2_ ?_;unfold dc;rw [if_pos rfl,lC _ (by omega),show (-(lv l:Int)).natAbs=lv l by omega];rfl
  have HSZ:Hid ((aE (lv l)).size<=900000):=by
   unfold Hid;by_cases hl:l=[]
   ·subst hl;rw [dL,dz,Lib.nDigits_small (by omega)];omega
   ·have:=I2_ hp hl;omega
  go_enter func127,ntmps127
  go_wp2_with fail;refine H1.mono ?_;rintro e w1 ⟨v',l',rfl,hr,kk,rfl⟩;have H2:=n8 (p4_ l' v' (w.drewN kk) hr.out.1.at hr.out.2.1 (by have:=hr.out.2.2.2;omega) (HT.ext (aC.draws (aC.refl _) _)));obtain ⟨a,c,rfl,h1,h2,-⟩:=hr.out.1.form;have hv:=hr.out.2.2.1;have hz:=hr.out.2.1.zero;rw [hv] at H2 hz;have HV:=n8 hv;have HL0:Hid (l'.length=0↔lv l=0):=by unfold Hid;rw [hz,List.length_eq_zero_iff]
  clear hr H1 hv hz;by_cases h0:l'.length=0
  ·have e0:=HL0.1 h0;have q:¬ (0:Int)<(l'.length:Int):=by omega
   have HZ2:=n8 (HZ e0);clear e0 h0;go_wp2_with fail;refine H2.mono ?_;rintro e w2 ⟨rfl,oY⟩;have HE2:=n8 (aC.trans (aC.draws (aC.refl _) _) oY);clear oY H2;go_wp2_with fail;go_ret;exact ⟨by first | rfl | (rw [HZ2.out];rfl) | (rw [<- HZ2.out];rfl),HE2⟩
  ·have e0:lv l≠0:=fun e=>h0 (HL0.2 e);have q:(0:Int)<(l'.length:Int):=by omega
   have HZ2:=n8 (HN e0);have hsz:=HSZ.out;have z1:¬ 9223372036854775807<1+(aE (lv l)).size:=by omega
   clear e0 h0;go_wp2_with fail;refine H2.mono ?_;rintro e w2 ⟨rfl,oY⟩;have HE2:=n8 (aC.trans (aC.draws (aC.refl _) _) oY);clear oY H2;go_wp2_with fail;go_ret;exact ⟨by first | rfl | (rw [HZ2.out];rfl) | (rw [<- HZ2.out];rfl),HE2⟩
end Go.Proofs.YtjlkkofmojgipaaGreatDoor
