import Derived.Test.YtoonaddcfakamaaGreatDoorYAS
import Derived.Test.YtoonaddcfakamaaGreatDoorYAN
import Derived.Test.YtoonaddcfakamaaGreatDoorYAR
import Derived.Test.YtoonaddcfakamaaGreatDoorYAE
import Derived.Test.YtoonaddcfakamaaGreatDoorYAO
import Derived.Test.YtoonaddcfakamaaGreatDoorYAB
import Derived.Test.YtoonaddcfakamaaGreatDoorYAA
import Derived.WalkSmall
import Derived.IntWalk
import Derived.OwnWalk
import Derived.Lib.ConvBytes
import Derived.Laws.AppendOwnNone
import Derived.Deep.Cut
import Derived.Test.YtoonaddcfakamaaGreatDoorYAJ
import Derived.Test.YtoonaddcfakamaaGreatDoorYAG
import Derived.Test.YtoonaddcfakamaaGreatDoorYAM
import Derived.Test.YtoonaddcfakamaaGreatDoorYAI
import Derived.Test.YtoonaddcfakamaaGreatDoorShelfA
import Derived.Test.YtoonaddcfakamaaGreatDoorYAD
import Derived.Test.YtoonaddcfakamaaGreatDoorShelfC
import Derived.Lib.AppendIntMem
import Derived.Lib.Join
import Derived.Test.YtoonaddcfakamaaGreatDoorYAP
import Derived.Laws.CopyRow
import Derived.Laws.CopyOwn
set_option linter.unusedVariables false
set_option linter.unusedSimpArgs false
set_option maxRecDepth 1000000
set_option maxHeartbeats 4000000
namespace Go.Proofs.YtoonaddcfakamaaGreatDoor
open Go.RowKit Go.Proofs.Tryz
theorem Z0V (n:Nat):gU n (aL n) where
 congr:=fun M N h=>cQ fun a b ha _=>h a b ha
 swap:=fun M i j h1 h2=>K9_ M h1 h2
 scale:=fun M r c hr=>b7_ M hr c
 add:=fun M r s c h1 h2 h3=>l3_ M h1 h2 h3 c
theorem Z3P {n:Nat} {m:List (List Rat)} (hR:bw n m) (hl:m.length=n) {f:(Nat->Nat->Rat)->Rat} (hf:gU n f)
  (hz:∀ M:Nat->Nat->Rat,(∃ r,r<n/\∀ b,b<n->M r b=0)->f M=0) (hc:∀ M N:Nat->Nat->Rat,(∀ a b,a<n->b<n->M a b=N a b)->f M=f N) :
  f (aJ m)=(ah m n).det*f (fun a b=>if a=b then 1 else 0):=by
 obtain ⟨ρ,sg,x,h⟩:=v3_ m hR n;rw [hl] at h;rw [h.form f hf,h.det];by_cases e:(ah m n).lead.length=n
 ·rw [if_pos e];congr 1;refine hc _ _ fun a b ha hb=>?_;have:=h.unit a b (by omega);rw [h.full e b hb] at this;exact this
 ·rw [if_neg e,hz _ ⟨(ah m n).lead.length,by have:=h.rle;omega,fun b hb=>h.zero _ b (n9 _) hb⟩];grind
theorem Z57 {n:Nat} {m:List (List Rat)} (hR:bw n m) (hl:m.length=n):(ah m n).det=aL n (aJ m):=by
 rw [Z3P hR hl (Z0V n) (fun M ⟨r,hr,h0⟩=>h_ hr h0) (fun M N h=>cQ h),M4_];grind
def fZ (k:Nat) (ρ:Nat->Nat):Nat->Nat
 | 0=>0
 | a+1=>fZ k ρ a+(k-a)*ρ a
theorem q7_ {k:Nat} {ρ σ:Nat->Nat}:∀ n,(∀ a,a<n->ρ a=σ a)->fZ k ρ n=fZ k σ n
 | 0,_=>rfl
 | n+1,h=>by
  show fZ k ρ n+_=fZ k σ n+_;rw [q7_ n (fun a ha=>h a (by omega)),h n (by omega)]
theorem e2_ {k:Nat} {ρ:Nat->Nat} {i:Nat} (h:ρ (i+1)<ρ i):∀ n,i+1<n->n<=k->fZ k (fun a=>ρ (az i a)) n<fZ k ρ n
 | 0,h1,_=>by omega
 | n+1,h1,h2=>by
  by_cases e:i+1=n
  ·subst e;show (fZ k (fun a=>ρ (az i a)) i+(k-i)*ρ (az i i))+(k-(i+1))*ρ (az i (i+1))<(fZ k ρ i+(k-i)*ρ i)+(k-(i+1))*ρ (i+1);have e1:fZ k (fun a=>ρ (az i a)) i=fZ k ρ i:=q7_ i fun a ha=>by unfold az;rw [if_neg (by omega),if_neg (by omega)]
   have e2:az i i=i+1:=(by unfold az;rw [if_pos rfl]);have e3:az i (i+1)=i:=(by unfold az;rw [if_neg (by omega),if_pos rfl]);rw [e1,e2,e3];obtain ⟨d,hd⟩:∃ d,ρ i=ρ (i+1)+d+1:=⟨ρ i-ρ (i+1)-1,by omega⟩;obtain ⟨q,hq⟩:∃ q,k-(i+1)=q:=⟨_,rfl⟩;have yo:k-i=q+1:=(by omega);rw [hd,hq,yo];generalize ρ (i+1)=y at *
   have a1:(q+1)*y=q*y+y:=Nat.succ_mul _ _;have a2:(q+1)*(y+d+1)=q*(y+d+1)+(y+d+1):=Nat.succ_mul _ _;omega
  ·have ih:=e2_ (k:=k) (ρ:=ρ) (i:=i) h n (by omega) (by omega);show fZ k (fun a=>ρ (az i a)) n+(k-n)*ρ (az i n)<fZ k ρ n+(k-n)*ρ n;have e2:az i n=n:=(by unfold az;rw [if_neg (by omega),if_neg (by omega)]);rw [e2];omega
structure lI (s:ByteArray) (i0 u:Nat):Prop where
 size:i0<=s.size
 digs:(s.data.toList.drop i0).all eB=true
 val:al 0 (s.data.toList.drop i0)=u
def Z5V (s:ByteArray) (i0 i:Nat):Nat:=al 0 ((s.data.toList.drop i0).take (i-i0))
theorem lI.dig {s:ByteArray} {i0 u:Nat} (h:lI s i0 u) {i:Nat} (h0:i0<=i) (hi:i<s.size):48<=s[i].toNat/\s[i].toNat<=57:=by
 have h1:(s.data.toList.drop i0)[i-i0]?=some s[i]:=by
  rw [oI,show i0+(i-i0)=i by omega];exact T5_ s i hi
 exact of_decide_eq_true (List.all_eq_true.1 h.digs _ (nw h1))
theorem lI.le {s:ByteArray} {i0 u:Nat} (h:lI s i0 u) (i:Nat):Z5V s i0 i<=u:=by
 have hs:s.data.toList.drop i0=(s.data.toList.drop i0).take (i-i0)++(s.data.toList.drop i0).drop (i-i0):=(List.take_append_drop _ _).symm;rw [<- h.val,hs,mm];unfold Z5V;exact s7_ _ _
theorem lI.all {s:ByteArray} {i0 u:Nat} (h:lI s i0 u):Z5V s i0 s.size=u:=by
 unfold Z5V;rw [List.take_of_length_le (by rw [List.length_drop,<- Lib.size_eq];omega)];exact h.val
def fb (p:List Nat) (i:Nat):Nat:=p.getD i 0
theorem B3_ {p:List Nat} {i x:Nat} (h:p[i]?=some x):fb p i=x:=by
 unfold fb;rw [nu,h];rfl
theorem B4_ {p:List Nat} {i:Nat} (h:p.length<=i):fb p i=0:=by
 unfold fb;rw [nu,n_ h];rfl
theorem H1_ {p:List Nat} (h:aO p) (i:Nat):fb p i<1000000000:=by
 by_cases hi:i<p.length;·rw [B3_ (ns hi)];exact h _ (List.getElem_mem hi)
 ·rw [B4_ (by omega)];omega
theorem nN (p:List Nat) (i:Nat):lv (p.take (i+1))=lv (p.take i)+pB i*fb p i:=by
 by_cases hi:i<p.length
 ·have h:=ns hi;rw [jt h,B3_ h]
 ·rw [B4_ (by omega),List.take_of_length_le (by omega),List.take_of_length_le (by omega)];rfl
theorem Z1N (l:List Nat) (x:Nat):lv (l++[x])=lv l+pB l.length*x:=by
 rw [ia,fI,eF,Nat.mul_zero,Nat.add_zero]
structure jA (p q:List Nat) (i c:Nat) (L:List Nat):Prop where
 len:L.length=i
 pcs:aO L
 le:c<=1
 val:lv L+c*pB i=lv (p.take i)+lv (q.take i)
theorem jA.start (p q:List Nat):jA p q 0 0 []:=⟨rfl,aO.nil,by omega,by simp [eF]⟩
theorem jA.step {p q L:List Nat} {i c s:Nat} (h:jA p q i c L) (hp:aO p) (hq:aO q) (hs:s=c+fb p i+fb q i):jA p q (i+1) (s / 1000000000) (L++[s%1000000000]):=by
 have h1:=H1_ hp i;have h2:=H1_ hq i;have h3:=h.le;refine ⟨by rw [oJ,h.len];rfl,h.pcs.append (aO.cons (by omega) aO.nil),by omega,?_⟩;rw [Z1N,h.len,nN,nN,ek];have hv:=h.val;have e:=Nat.div_add_mod s 1000000000;generalize s / 1000000000=d at *
 generalize s%1000000000=m at *
 subst hs;generalize lv L=A at *
 generalize pB i=P at *
 grind
theorem jA.done {p q L:List Nat} {i:Nat} (h:jA p q i 0 L) (h1:p.length<=i) (h2:q.length<=i):lv L=lv p+lv q:=by
 have:=h.val;rw [List.take_of_length_le h1,List.take_of_length_le h2,Nat.zero_mul,Nat.add_zero] at this;exact this
structure kE (p q:List Nat) (i b:Nat) (L:List Nat):Prop where
 len:L.length=i
 pcs:aO L
 le:b<=1
 val:lv L+lv (q.take i)=lv (p.take i)+b*pB i
theorem kE.start (p q:List Nat):kE p q 0 0 []:=⟨rfl,aO.nil,by omega,by simp [eF]⟩
theorem kE.step {p q L:List Nat} {i b x b':Nat} (h:kE p q i b L) (hx:x<1000000000) (hb:b'<=1) (he:x+fb q i+b=fb p i+b'*1000000000):kE p q (i+1) b' (L++[x]):=by
 refine ⟨by rw [oJ,h.len];rfl,h.pcs.append (aO.cons hx aO.nil),hb,?_⟩;rw [Z1N,h.len,nN,nN,ek];have hv:=h.val;have h2:pB i*(x+fb q i+b)=pB i*(fb p i+b'*1000000000):=by rw [he]
 generalize pB i=P at *
 grind
theorem kE.done {p q L:List Nat} {b:Nat} (h:kE p q p.length b L) (hp:aO p) (hq:q.length<=p.length) (hl:lv q<=lv p):lv L=lv p-lv q/\b=0:=by
 have hv:=h.val;rw [List.take_of_length_le (n9 _),List.take_of_length_le hq] at hv;have h1:=fK h.pcs;rw [h.len] at h1;have h2:=h.le;have hb:b=0:=by
  false_or_by_contra
  have:b=1:=by omega
  subst this;omega
 subst hb;omega
structure mV (p q:List Nat) (i:Nat) (L:List Nat):Prop where
 len:L.length=p.length+q.length+1
 pcs:aO L
 val:lv L=lv (p.take i)*lv q
structure lJ (p q:List Nat) (i x k c:Nat) (L:List Nat):Prop where
 len:L.length=p.length+q.length+1
 pcs:aO L
 lt:c<1000000000
 val:lv L+c*pB (i+k)=lv (p.take i)*lv q+x*(lv (q.take k)*pB i)
theorem mV.start (p q:List Nat):mV p q 0 (List.replicate (p.length+q.length+1) 0) :=
 ⟨by simp,aO.zeros _,by rw [w2_,List.take_zero,eF,Nat.zero_mul]⟩
theorem mV.enter {p q L:List Nat} {i:Nat} (x:Nat) (h:mV p q i L):lJ p q i x 0 0 L :=
 ⟨h.len,h.pcs,by omega,by rw [h.val,List.take_zero,eF];simp⟩
theorem lJ.step {p q L:List Nat} {i x k c a y c':Nat} (h:lJ p q i x k c L) (ha:L[i+k]?=some a) (hx:x<1000000000) (hq:aO q) (hc:c'=c+a+x*fb q k) (hy:y=c'%1000000000) :
  lJ p q i x (k+1) (c' / 1000000000) (L.set (i+k) y):=by
 have h1:=h.lt;have h2:=h.pcs.get ha;have h3:=H1_ hq k;have h4:x*fb q k<=999999999*999999999:=Nat.mul_le_mul (by omega) (by omega);refine ⟨by rw [List.length_set];exact h.len,h.pcs.set _ _ (by omega),by omega,?_⟩
 exact T3_ (P:=pB (i+k)) (P':=pB (i+k+1)) (c:=c) (x:=a) (y:=y) (ab:=x*fb q k) (acc2:=x*(lv (q.take (k+1))*pB i)) (ek _) h.val hc hy (nM y ha) (by
   rw [nN,lx];grind)
theorem lJ.leave {p q L:List Nat} {i x k:Nat} (h:lJ p q i x k 0 L) (hk:q.length<=k) (hx:p[i]?=some x):mV p q (i+1) L:=by
 refine ⟨h.len,h.pcs,?_⟩;have h2:=h.val;rw [List.take_of_length_le hk,Nat.zero_mul,Nat.add_zero] at h2;rw [h2,jt hx];grind
structure kD (p q:List Nat) (i:Nat) (L:List Nat) (R:Nat):Prop where
 len:L.length=p.length
 pcs:aO L
 low:∀ j,j<i->L[j]?=some 0\/p.length<=j
 val:lv (p.drop i)=lv (L.drop i)*lv q+R
 lt:R<lv q
theorem kD.start (p q:List Nat) (hq:0<lv q):kD p q p.length (List.replicate p.length 0) 0 :=
 ⟨by simp,aO.zeros _,fun j hj=>.inl (by rw [List.getElem?_replicate,if_pos hj]),by rw [List.drop_length,List.drop_eq_nil_of_le (by simp)];simp [eF],hq⟩
theorem kD.step {p q L:List Nat} {i R x d:Nat} (h:kD p q (i+1) L R) (hx:p[i]?=some x) (hp:aO p) (hd:d=(x+1000000000*R) / lv q) :
  kD p q i (L.set i d) ((x+1000000000*R)-d*lv q)/\d<1000000000/\d*lv q<=x+1000000000*R:=by
 have hi:=(nt.1 hx).1;have hxb:=hp.get hx;have hlt:=h.lt;have h0:0<lv q:=by omega
 have vv:d<1000000000:=by
  rw [hd,Nat.div_lt_iff_lt_mul h0];have:(R+1)*1000000000<=lv q*1000000000:=Nat.mul_le_mul_right _ hlt;omega
 have e:=Nat.div_add_mod (x+1000000000*R) (lv q);have e2:=Nat.mod_lt (x+1000000000*R) h0;rw [<- hd] at e;have e3:lv q*d=d*lv q:=Nat.mul_comm _ _;refine ⟨⟨by rw [List.length_set];exact h.len,h.pcs.set _ _ vv,fun j hj=>?_,?_,by omega⟩,vv,by omega⟩
 ·rw [oK,if_neg (by omega)];exact h.low j (by omega)
 ·have hL:(L.set i d)[i]?=some d:=by rw [oK,if_pos rfl,if_pos (by rw [h.len];exact hi)]
  rw [fJ hx,fJ hL,List.drop_set_of_lt (by omega),h.val,Nat.add_mul];have:1000000000*lv (L.drop (i+1))*lv q=1000000000*(lv (L.drop (i+1))*lv q):=Nat.mul_assoc _ _ _;omega
theorem kD.done {p q L:List Nat} {R:Nat} (h:kD p q 0 L R):lv L=lv p / lv q/\R=lv p%lv q:=by
 have hv:=h.val;rw [List.drop_zero,List.drop_zero] at hv;have hlt:=h.lt;rw [hv,Nat.mul_comm];constructor;·rw [Nat.mul_add_div (by omega),Nat.div_eq_of_lt hlt];rfl
 ·rw [Nat.mul_add_mod,Nat.mod_eq_of_lt hlt]
def pcJ (x:Nat):Value:=.int .i64 x
def cN (B:Nat) (w:World) (v:Value) (l:List Nat):Prop:=w.ownsRow B 3 1 v l.length (l.map pcJ)
def pcRJ (_:World) (u:List Value) (x:Nat):Prop:=u=[pcJ x]
theorem pcRJ.mono:gT pcRJ:=fun _ _ _ _ _ h=>h
abbrev lF (w:World) (v:Value) (l:List Nat):Prop:=aR 1 pcRJ w v l
theorem lF.ext {w w':World} {v:Value} {l:List Nat} (h:lF w v l) (he:aA w w'):lF w' v l:=aR.ext pcRJ.mono h he
theorem cN.at {B:Nat} {w:World} {v:Value} {l:List Nat} (h:cN B w v l):lF w v l:=by
 refine ⟨l.map fun x=>[pcJ x],by simp,by simp,?_,?_⟩
 ·have:=dD.of_owns h
  rwa [eW]
 ·intro j u x hu hx;simp only [nx,hx,Option.map_some,Option.some.injEq] at hu;exact hu.symm
theorem cN.ext {B:Nat} {w w':World} {v:Value} {l:List Nat} (h:cN B w v l) (he:aA w w'):cN B w' v l:=fN h he
theorem cN.form {B:Nat} {w:World} {v:Value} {l:List Nat} (h:cN B w v l):∃ a cap,v=.slice a l.length cap/\l.length<=cap/\cap<=9223372036854775807/\(l≠[]->∃ g,a=some ⟨g,0,none⟩/\B<=g/\g<w.heap.size):=by
 rcases h.2 with ⟨rfl,hn⟩ | ⟨g,cap,cur,rfl,hb,hg,h1,h2,h3,h4⟩
 ·exact ⟨none,0,by rw [hn],by omega,by omega,fun hne=>absurd (List.length_eq_zero_iff.1 hn) hne⟩
 ·exact ⟨_,cap,rfl,h1,h2,fun _=>⟨g,rfl,hb,(Array.getElem?_eq_some_iff.1 hg).1⟩⟩
theorem cN.base {B B':Nat} {w:World} {v:Value} {l:List Nat} (h:cN B w v l) (hb:B'<=B):cN B' w v l:=by
 refine ⟨h.1,?_⟩;rcases h.2 with h' | ⟨g,cap,cur,e,hg,rest⟩
 ·exact .inl h'
 ·exact .inr ⟨g,cap,cur,e,n8 hb hg,rest⟩
theorem cN.nil (B:Nat) (w:World):cN B w (.slice none 0 0) []:=World.ownsRow_nil w B 3 1
theorem cN.get {B g n cap:Nat} {w:World} {l:List Nat} (h:cN B w (.slice (some ⟨g,0,none⟩) n cap) l) {k x:Nat} (hx:l[k]?=some x) :
  w.cell? ⟨g,k,none⟩=some (.int .i64 x)/\w.frozen? ⟨g,k,none⟩=false:=by
 have hk:k<l.length:=(nt.1 hx).1;have hn:n=l.length:=by
  rcases h.2 with ⟨e,_⟩ | ⟨g',cap',cur,e,_⟩
  ·cases e
  ·simp only [Value.slice.injEq] at e;exact e.2.1
 subst hn;exact ⟨(World.ownsRow.cellAt h k (by simpa using hk)).trans (by simp [hx,pcJ]),World.ownsRow.frozenAt h k⟩
theorem cN.set {B g n cap:Nat} {w:World} {l:List Nat} (h:cN B w (.slice (some ⟨g,0,none⟩) n cap) l) (k x:Nat) :
  cN B (w.setCell ⟨g,k,none⟩ (.int .i64 x)) (.slice (some ⟨g,0,none⟩) n cap) (l.set k x):=by
 have hn:n=l.length:=by
  rcases h.2 with ⟨e,_⟩ | ⟨g',cap',cur,e,_⟩
  ·cases e
  ·simp only [Value.slice.injEq] at e;exact e.2.1
 subst hn;unfold cN at h |-;rw [List.map_set,List.length_set];exact (World.ownsRow.stored h k _).1
theorem cN.take {B g n cap:Nat} {w:World} {l:List Nat} (h:cN B w (.slice (some ⟨g,0,none⟩) n cap) l) (m:Nat) (hm:m<=l.length) :
  cN B w (.slice (some ⟨g,0,none⟩) m cap) (l.take m):=by
 have hl:(l.take m).length=m:=by rw [ny];omega
 refine ⟨by rw [List.length_map,Nat.mul_one],.inr ?_⟩;rcases h.2 with ⟨e,_⟩ | ⟨g',cap',cur,e,hb,hg,h1,h2,h3,h4⟩
 ·cases e
 ·simp only [Value.slice.injEq,Option.some.injEq,Addr.mk.injEq] at e;obtain ⟨⟨rfl,-,-⟩,rfl,rfl⟩:=e;refine ⟨g,cap,cur,by rw [hl],hb,hg,by omega,h2,h3,?_⟩;rw [Nat.mul_one] at h4 |-;rw [List.map_take,<- h4,List.take_take,hl,Nat.min_eq_left (by omega)]
theorem cN.len {B g n cap:Nat} {w:World} {l:List Nat} (h:cN B w (.slice (some ⟨g,0,none⟩) n cap) l):n=l.length:=by
 rcases h.2 with ⟨e,_⟩ | ⟨g',cap',cur,e,_⟩
 ·cases e
 ·simp only [Value.slice.injEq] at e;exact e.2.1
theorem lF.open {w:World} {v:Value} {l:List Nat} (h:lF w v l) :
  ∃ (a:Option Addr) (cap:Nat),v=.slice a l.length cap/\l.length<=cap/\cap<=9223372036854775807 /\
   (l≠[]->∃ b off,a=some ⟨b,off,none⟩/\b<w.heap.size/\∀ (j:Nat) x,l[j]?=some x->w.cell? ⟨b,off+j,none⟩=some (.int .i64 x)):=by
 obtain ⟨a,cap,hv,h1,h2,h3,h4⟩:=aR.open h;refine ⟨a,cap,hv,h1,h2,fun hx=>?_⟩;obtain ⟨b,off,ha,hb,hc⟩:=h4 (by omega) hx;refine ⟨b,off,ha,hb,fun j x hj=>?_⟩;obtain ⟨u,_,hr,hcell⟩:=hc j x hj;have:=hcell 0 (by omega);rw [hr] at this;simpa [pcJ] using this
theorem cN.made {B n:Nat} {w:World} {v:Value} (h:w.ownsRow B 3 1 v n (madeCells #[.int .i64 0] n).toList):cN B w v (List.replicate n 0):=by
 unfold cN;rw [List.length_replicate];have e:(madeCells #[Value.int .i64 0] n).toList=(List.replicate n 0).map pcJ:=(toList_madeCells_one _ _).trans (by simp [pcJ])
 rwa [e] at h
theorem cN.build {B:Nat} {w:World} {v:Value} {l:List Nat} (h:cN B w v l):aj w B 3 1 v pcRJ l:=by
 refine ⟨l.map fun x=>[pcJ x],by simp,by simp,?_,?_⟩;·rw [eW];exact h
 ·intro j u x hu hx w' _;simp only [nx,hx,Option.map_some,Option.some.injEq] at hu;exact hu.symm
theorem jA.over {p q L:List Nat} {i c:Nat} (h:jA p q i c L) (hp:aO p) (hq:aO q) (h1:p.length<i) (h2:q.length<i):c=0:=by
 have hv:=h.val;rw [List.take_of_length_le (by omega),List.take_of_length_le (by omega)] at hv;have a1:=fK hp;have a2:=fK hq;have a3:pB p.length<=pB (i-1):=j2_ (by omega);have a4:pB q.length<=pB (i-1):=j2_ (by omega);have a5:pB i=1000000000*pB (i-1):=by rw [<- ek];congr 1;omega
 false_or_by_contra
 have:=h.le;have hc:c=1:=by omega
 rw [hc,a5] at hv;omega
theorem bH.drop {l:List Nat} (h:bH l) {k:Nat} (hk:k<l.length):bH (l.drop k):=by
 refine ⟨h.1.drop k,fun x hx=>?_⟩;rw [List.length_drop,oI,show k+(l.length-k-1)=l.length-1 by omega] at hx;exact h.2 x hx
theorem cN.lit (w:World) (m:Nat):cN w.heap.size (w.alloc (.cells #[.int .i64 m] 3)) (.slice (some ⟨w.heap.size,0,none⟩) 1 1) [m]:=by
 have:=World.ownsRow_lit (e:=3) (size:=1) w #[Value.int .i64 m] 1 (n9 _) (by unfold maxLen;omega) rfl;exact this
def Z3C (xss:oP):Nat:=xss.foldl (fun m r=>max m r.length) 0
def Z6u (xss:oP):Prop:=(xss.length<=4/\Z3C xss<=5)\/(12<=xss.length/\xss.length<=14/\Z3C xss<=2)\/(xss.length<=2/\11<=Z3C xss/\Z3C xss<=14)
instance (xss:oP):Decidable (Z6u xss):=inferInstanceAs (Decidable (_\/_))
def gQ (x:oQ):Prop:=∀ a∈x,-1000000000<=a/\a<=1000000000
theorem aj.safe_ints {w:World} {base:Nat} {v:Value} {xs:oQ} {o:Option Nat} (h:aj w base 3 1 v intR xs) (ho:∀ k,o=some k->k<base):cB w o (fun w'=>aK w' v xs):=by
 intro w' hg;have hne:v.ownBlock=none\/v.ownBlock≠o:=by
  cases hv:v.ownBlock with
  | none=>exact .inl rfl
  | some b =>
   refine .inr fun e=>?_;have h1:=(h.lt b hv).1;have h2:=ho b e.symm;omega
 obtain ⟨us,h1,h2,h3,h4⟩:=h;have h3':=cB.owns h3 hne w' hg;have:aj w' base 3 1 v intR xs:=⟨us,h1,h2,h3',fun j u x hu hx w'' _=>(h4 j u x hu hx).now⟩;exact this.list
def fj (xss:oP) (c:Nat):List Int:=xss.map fun r=>r.getD c 0
def eR (xss:oP):oP:=(List.range (bJ xss)).map (fj xss)
theorem Z0y (xss:oP):(eR xss).length=bJ xss:=by simp [eR]
theorem h1_ {xss:oP} {c:Nat} (h:c<bJ xss):(eR xss).take (c+1)=(eR xss).take c++[fj xss c]:=by
 unfold eR;rw [<- List.map_take,<- List.map_take,nz,List.getElem?_range h,List.map_append];rfl
theorem Z0Q {xss:oP} {i c:Nat} {r:oQ} {p:Int} (hr:xss[i]?=some r) (hp:r[c]?=some p):(fj xss c).take (i+1)=(fj xss c).take i++[p]:=by
 unfold fj;rw [<- List.map_take,<- List.map_take,nz,hr,List.map_append];show _++[r.getD c 0]=_;rw [nu,hp];rfl
theorem Z4E {xss:oP} {c:Nat} (h:∀ r∈xss,gQ r):gQ (fj xss c):=by
 intro a ha;obtain ⟨r,hr,rfl⟩:=List.mem_map.1 ha;rw [nu];cases hc:r[c]? with
 | none=>simp
 | some p=>exact h r hr p (nw hc)
theorem Z0u (xss:oP) (v:Value) (w:World) (h:aV w v xss) (hE:cM xss=0) :
  Calls prog 192 #[v] w fun e w'=>∃ u,e=.returned (.tuple #[u,.int .i64 0])/\aj w' w.heap.size 36 1 u rowR (eR xss)/\aA w w':=by
 obtain ⟨hl,qX⟩:=j8 hE;have hn:bJ xss<=12:=by
  cases xss with
  | nil=>show 0<=12;omega
  | cons r l=>exact (qX r (by simp)).2.1
 have HCH:Hid (∀ W,aA w W->oL 100 #[v] W (.int .i64 0)):=fun W hW=>by have:=mF xss v W (h.ext hW);rw [hE] at this;exact this
 have qv:Hid (∀ W,aA w W->oM 200 #[v] W (.int .i64 (bJ xss:Int))):=fun W hW=>Y8_ xss v W (h.ext hW);obtain ⟨a,ca,rfl,h1,h2,-,hc⟩:=aP.open h;have HC:=np hc;have HRR:Hid (∀ r∈xss,r.length=bJ xss):=fun r hr=>(qX r hr).1;have xH:Hid (∀ r∈xss,gQ r):=fun r hr=>(qX r hr).2.2;obtain ⟨n,xP⟩:=oO (bJ xss);rw [<- xP] at qv HRR hn;have HN:=np xP;unfold maxLen at h2;clear h hc qX xP hE
 go_enter func192,ntmps192
 go_wp2_with fail;refine o_ (HCH _ (aA.refl _)) ?_;intro w1 HE1;go_wp2_with fail;refine q_ (qv _ HE1) ?_;go_wp2_with fail
 go_loopw [17,5] (fun t o wr=>∃ c:Nat,c<=n/\t=.int .i64 c/\Hid (aA w wr)/\Hid (aj wr w.heap.size 36 1 o rowR ((eR xss).take c))) (fun t _ _=>n-(intOf t).toNat)
 case atStart=>exact ⟨0,by omega,rfl,by first | exact HE1 | exact aA.refl _,aj.nil _ _ _ _ _⟩
 case round =>
  obtain ⟨c,hc,rfl,HE,HB⟩:=hrel;obtain ⟨wo,rfl⟩:∃ wo:World,wo=wr:=⟨_,rfl⟩;by_cases hlt:c<n
  ·have HTT:=np (h1_ (xss:=xss) (c:=c) (by rw [<- HN.out];exact hlt));have HCL:Hid ((fj xss c).length=xss.length):=(by unfold Hid fj;simp);have HCB:=np (Z4E (c:=c) xH);have yI:(c:Int)<(n:Int):=(by omega);go_wp2_with fail
   go_loopw [22,7] (fun t o wr=>∃ i:Nat,i<=xss.length/\t=.int .i64 i/\Hid (aA wo wr)/\Hid (aj wr wo.heap.size 3 1 o intR ((fj xss c).take i))) (fun t _ _=>xss.length-(intOf t).toNat)
   case atStart=>exact ⟨0,by omega,rfl,by first | exact aA.refl _ | exact aA.drew _,aj.nil _ _ _ _ _⟩
   case round =>
    obtain ⟨i,hi,rfl,rU,HBI⟩:=hrel;obtain ⟨wi,rfl⟩:∃ wi:World,wi=wr:=⟨_,rfl⟩;have HWI:=np (HE.trans rU);by_cases hil:i<xss.length
    ·obtain ⟨b,off,rfl,hb,hcell⟩:=HC (by intro e;simp [e] at hil);obtain ⟨r,hr⟩:∃ x,xss[i]?=some x:=⟨xss[i],ns hil⟩;obtain ⟨vr,rn,sW⟩:=hcell i r hr;obtain ⟨ar,cr,rfl,r1,r2,-,-,qO⟩:=rn.open;have Cp:r.length=n:=HRR r (nw hr);rw [Cp] at sW;obtain ⟨br,or_,rfl,-,pc⟩:=qO (by intro e;rw [e] at Cp;simp at Cp;omega);obtain ⟨p,hp⟩:∃ p,r[c]?=some p:=⟨_,ns (by omega)⟩;have g1:=HWI.cell sW;have g2:=HWI.cell (pc c p hp);have HCT:=np (Z0Q hr hp);have hbd:=xH r (nw hr) p (nw hp);have HBD:Hid (-9223372036854775808<=p/\p<=9223372036854775807):=(by unfold Hid;omega);have HLL:Hid (((fj xss c).take i).length<1000000):=Nat.lt_of_le_of_lt (by rw [ny];exact Nat.min_le_left _ _) (show i<1000000 by omega);have hs5:wo.heap.size<=wi.heap.size:=rU.size;have MA:(i:Int)<(xss.length:Int):=(by omega);clear hcell hr rn sW qO pc hp Cp hbd r1 r2;go_wp2_with (at_builtin;go_must (refine jY _ rfl _ _ 36 rfl wo.heap.size 3 (.int .i64 0) 1 8 underlying36 jK rfl (by decide) u7 intR ((fj xss c).take i) p #[.int .i64 p] 3 rfl HBI rfl rfl ?_ (fun _ _=>⟨rfl,HBD⟩) HLL (by decide) hs5 ?_))
     all_goals first | (simp [Value.oneCell'];done) | skip
     intro v' w6 sQ rZ sy Co _;rw [<- HCT.out] at sQ;have HB6:=np sQ;have HX6:Hid (aA wo w6):=Below.trans rU sy;clear sQ rZ sy;go_wp2_with fail;go_roundw
     case rel=>exact ⟨i+1,by omega,by go_num,HX6,HB6⟩
     case measure=>simp [intOf];omega
    ·obtain rfl:i=xss.length:=(by omega);have xw:(fj xss c).take xss.length=fj xss c:=(by rw [<- HCL.out,List.take_length]);rw [xw] at HBI;obtain ⟨a5,c5,G6,-⟩:=aK.open HBI.list;rw [HCL.out] at G6;subst G6;have HOW:Hid (∀ k,u5.ownBlock=some k->k<wo.heap.size):=fun k hk=>(HB.lt k hk).2;have HBO:=np (HB.ext rU);have HSF:=np (HBI.safe_ints (o:=u5.ownBlock) HOW);have HLL:Hid (((eR xss).take c).length<1000000):=Nat.lt_of_le_of_lt (by rw [ny];exact Nat.min_le_left _ _) (show c<1000000 by omega);have hs5:w.heap.size<=wi.heap.size:=HWI.size;clear xw;go_wp2_with (at_builtin;go_must (refine jY _ rfl _ _ 32 rfl w.heap.size 36 (.slice none 0 0) 1 24 underlying32 f3_ rfl (by decide) u5 rowR ((eR xss).take c) (fj xss c) #[.slice a5 xss.length c5] 36 rfl HBO rfl rfl ?_ (HSF.mono fun w' hw=>⟨_,rfl,hw⟩) HLL (by decide) hs5 ?_))
     case refine_1=>simp [Value.oneCell']
     intro v' w6 sQ rZ sy Co _;rw [<- HTT.out] at sQ;have HB6:=np sQ;have HX6:=np (Below.trans HWI sy);clear sQ rZ sy;go_wp2_with fail;go_roundw
     case rel=>exact ⟨c+1,by omega,by go_num,HX6,HB6⟩
     case measure=>simp [intOf];omega
  ·obtain rfl:c=n:=(by omega);have xw:(eR xss).take c=eR xss:=List.take_of_length_le (by rw [Z0y,<- HN.out];exact n9 _);rw [xw] at HB;clear xw;go_wp2_with fail;go_ret2;exact ⟨_,rfl,HB,HE⟩
theorem d7_ {n:Nat}:∀ {l:oP},(∀ r∈l,r.length=n/\n<=12/\gQ r)->iN n l=0
 | [],_=>rfl
 | r::l,h=>by
  obtain ⟨h1,h2,h3⟩:=h r (by simp);unfold iN
  rw [if_neg (by omega),if_pos h1,if_neg (by
   rw [Bool.not_eq_true,List.any_eq_false];intro x hx;have:=(nA x).2 (h3 x hx)
   simp [this])]
  exact d7_ fun q hq=>h q (by simp [hq])
theorem Z5i {xss:oP} {n:Nat} (hl:xss.length<=12) (h:∀ r∈xss,r.length=n/\n<=12/\gQ r):cM xss=0:=by
 unfold cM;rw [if_neg (by omega)];cases xss with
 | nil=>rfl
 | cons r l =>
  have e:((r::l).headD []).length=n:=(h r (by simp)).1;rw [e];exact d7_ h
theorem Z1S {xss:oP} {k:Nat} {R S:List Nat} (hR:R.length=k) (hS:S.length=k) :
  (ah (df (cI xss R S)) k).det=aL k (fun a b=>aJ (df xss) (R.getD a 0) (S.getD b 0)):=by
 have h:=Z57 (m:=df (cI xss R S)) (n:=k) (by rw [<- hS];exact P5_ xss R S) (by rw [L2_,km];exact hR);rw [h];refine cQ fun a b ha hb=>?_;rw [Z54 (ns (by omega:a<R.length)) (ns (by omega:b<S.length)),w3_];have e1:R.getD a 0=R[a]:=by rw [nu,ns (by omega:a<R.length)];rfl
 have e2:S.getD b 0=S[b]:=by rw [nu,ns (by omega:b<S.length)];rfl
 rw [e1,e2];rfl
theorem Z3L {xss:oP} (hE:cM xss=0) (R S:List Nat):∀ r∈cI xss R S,∀ a∈r,-1000000000<=a/\a<=1000000000:=by
 intro r hr a ha;unfold cI at hr;obtain ⟨i,-,rfl⟩:=List.mem_map.1 hr;obtain ⟨j,-,rfl⟩:=List.mem_map.1 ha;have h:=Z1O (xss:=xss) (fun r hr=>((j8 hE).2 r hr).2.2) i j;obtain ⟨z,h1,h2⟩:=h;rw [w3_] at h1;have h3:kI xss i j=z:=congrArg Rat.num h1;have h4:(xss.getD i []).getD j 0=z:=h3;rw [h4];omega
theorem q4_ {xss:oP} (hE:cM xss=0) {k:Nat} (hk1:k<=xss.length) (hk2:k<=bJ xss) :
  ∀ R∈bh xss.length k,∀ S∈bh (bJ xss) k,∀ c,c<k->fi 2500 (ah (df (cI xss R S)) c).m/\RS 9000 (ah (df (cI xss R S)) c).det:=by
 intro R hR S hS c _;obtain ⟨hl,qX⟩:=j8 hE;obtain ⟨s1,-,-⟩:=nY (n:=xss.length) hl hk1;exact o1_ (P5_ xss R S) (by rw [L2_,km,s1.len R hR];omega) (Z1O (Z3L hE R S)) c
theorem t6_:∀ n,n<5->∀ m,m<5->∀ k,k<5->k<=n->k<=m->eA n k*eA m k<=1000:=by decide +kernel
theorem K4_ {w:World} {v:Value} {X:oQ} (h:aR 1 numC w v X):aR 1 (aP Z5Y) w v X:=by
 obtain ⟨us,h1,h2,h3,h4⟩:=h;exact ⟨us,h1,h2,h3,fun j u x hu hx=>⟨_,h4 j u x hu hx,rfl⟩⟩
theorem Z44 {n:Nat} {M:oP} (hn:n<=12) (hl:M.length<=12) (hM:∀ x∈M,aN 1000000000 x/\x.length=n):cM M=0 :=
 Z5i hl fun r hr=>⟨(hM r hr).2,hn,fun x hx=>by have:=(hM r hr).1 x hx;omega⟩
theorem Z47 {n:Nat} {m:oP} (hn:n<=4) (hw:∀ r∈m,r.length=n) (hk:m.length<=n) (hE:cM m=0) (X:oQ) (hX:fp m m.length=X) (v:Value) (w:World) (h:aV w v m) (ht:aZ w) :
  Calls prog 29 #[v,.int .i64 n] w fun e w'=>∃ a c,e=.returned (.tuple #[.agg #[.int .i64 n,.int .i64 m.length,.slice a X.length c],.int .i64 0])/\w'.ownsRow (w.heap.size+1) 92 1 (.slice a X.length c) X.length (fT X)/\aA w w':=by
 subst hX;have o8:m.length<=bJ m/\bJ m<5\/m=[]:=by
  cases m with
  | nil=>exact .inr rfl
  | cons r l=>exact .inl (by show _<=r.length/\r.length<5;rw [hw r (List.mem_cons_self ..)];exact ⟨hk,by omega⟩)
 have sx:m.length<=bJ m/\eA m.length m.length*eA (bJ m) m.length<=1000:=by
  rcases o8 with ⟨h1,h2⟩ | h1;·exact ⟨h1,t6_ _ (by omega) _ h2 _ (by omega) (n9 _) h1⟩
  ·rw [h1];exact ⟨Nat.zero_le _,by decide⟩
 exact Z5m m n _ v w h hE (by omega) hk hw (fun W' hW'=>Z05 m m.length v W' (h.ext hW') hE (n9 _) sx.1 sx.2 (q4_ hE (n9 _) sx.1) (ht.ext hW'))
theorem a9_ (n F:Nat) (P:oQ) (C M:oP) (X:oQ) (v:Value) (w:World) (hV:bZ w v P C M) (hR:iT n F P C M) (hn4:n<=4) (hml:M.length<=n) (hX:fp M M.length=X) (hb:∀ x∈X,x.natAbs<=1000000000) (oS:bg w) (hp:3<w.heap.size) :
  Calls prog 24 #[v] w fun e w'=>∃ a c,e=.returned (.tuple #[.agg #[.int .i64 n,.int .i64 M.length,.slice a X.length c],.int .i64 0])/\w'.ownsRow w.heap.size 92 1 (.slice a X.length c) X.length (fT X)/\aA w w':=by
 have HCK:=np (fun W (hW:aA w W)=>z1_ n F P C M v W (hV.ext hW) hR (oS.ext hW) (n7 hp hW.size));have hE:cM M=0:=Z44 (n:=n) (by omega) (by omega) hR.bM;have HOF:=np (fun W (hW:aA w W) vm (hm:aV W vm M)=>Z47 hn4 (fun r hr=>(hR.bM r hr).2) hml hE X hX vm W hm (oS.pow.ext hW));have HSH:=np (fun W (hW:aA w W) vx (hx:aR 1 numC W vx X)=>o9_ X vx W (K4_ hx) hb (oS.ext hW));have hPl:=hR.pl;obtain ⟨vp,vc,vm,rfl,pZ,qI,pz⟩:=hV;have HVM:=np pz;obtain ⟨ap,cp,rfl,-⟩:=pZ.open;obtain ⟨ac,cc,rfl,-⟩:=aP.open qI;obtain ⟨am,cm,rfl,-⟩:=aP.open pz;rw [hPl] at HCK |-;clear pZ qI pz hR oS hp hPl hb hX hE hml hn4
 go_enter func24,ntmps24
 obtain ⟨W1,oZ,hE1,hs1,hb1⟩:=fv w (.slice ap n cp) (.slice ac C.length cc) (.slice am M.length cm);obtain ⟨W2,pg,hE2,hs2,oY⟩:=mb W1 (.int .i64 0) (.int .i64 0) (.slice none 0 0);have HB1:=np (aF hb1 hE2);have HB2:=np oY;have HE2:=np (hE1.trans hE2);obtain ⟨b0,b1,b2,-⟩:=bc HB1;have HS1:Hid (w.heap.size<=W1.heap.size):=by unfold Hid;omega
 clear hE1 hs1 hb1 hE2 hs2 oY;go_wp2_with fail;refine (HCK _ HE2).mono ?_;rintro e w3 ⟨rfl,oT⟩;have HE3:=np (HE2.trans oT);have HB13:=np (aF HB1 oT);have HB23:=np (aF HB2 oT);obtain ⟨g,hg⟩:=oN W1.heap.size;have rz:Hid (g<w3.heap.size):=by rw [<- hg];exact c_ HB23
 rw [hg] at HB23 HS1 |-;clear oT HCK HB1 HB2 HE2 b0 b1 b2 pg hg;obtain ⟨b0,b1,b2,-⟩:=bc HB13;go_wp2_with fail;refine (HOF _ HE3 _ (HVM.ext HE3)).mono ?_;rintro e w4 ⟨a4,c4,rfl,hx4,hE4⟩;obtain ⟨V5,FZ,s5,hs5,hb5⟩:=mb w4 (.int .i64 0) (.int .i64 0) (.slice none 0 0);have r0:=ag hb5;have f0:=cO hb5;have HB5:=np (kf hb5 (.int .i64 n) (.int .i64 M.length) (.slice a4 X.length c4));have HX5:=np (ke (B:=w4.heap.size) s5 (n9 _) (.int .i64 n) (.int .i64 M.length) (.slice a4 X.length c4));obtain ⟨U5,Bi⟩:=oN (((V5.setCell ⟨w4.heap.size,0,none⟩ (.int .i64 n)).setCell ⟨w4.heap.size,1,none⟩ (.int .i64 M.length)).setCell ⟨w4.heap.size,2,none⟩ (.slice a4 X.length c4));rw [Bi] at HB5 HX5;have HEU:Hid (aA w U5):=(HE3.trans hE4).trans HX5;have HOU:=np (w8_ (base:=g+1) (fN hx4 HX5) (Nat.le_succ_of_le (Nat.succ_le_of_lt rz)));have HRU:=np (numC.of_owns HOU);have HB25:=np (aF HB23 (hE4.trans HX5));have s1:=ag HB5;clear s5 hs5 hb5 hx4 hE4 HX5 HE3 HB23 HB13 HVM HOF b0 b1 b2;go_wp2_with fail;clear Bi FZ r0 f0;refine (HSH _ HEU _ HRU).mono ?_;rintro e w6 ⟨rfl,oU⟩;have HE6:=np (HEU.trans oU);have HR6:=np (fN HOU oU);have HB26:=np (aF HB25 oU);have HB56:=np (aF HB5 oU);clear oU HEU HRU HOU HB25 HB5 HSH s1;have s1:=ag HB56;have f0:=cO HB26;have k0:=ag HB26;go_wp2_with fail;have hb7:=kf HB26 (.int .i64 (n:Int)) (.int .i64 (M.length:Int)) (.slice a4 X.length c4);refine bodyPost_ret (nW (by rfl) _ _ g 50 #[.int .i64 n,.int .i64 M.length,.slice a4 X.length c4] (0,0) _ (.int .i64 0) (by rfl) (by rfl) hb7 underlying50 (by rfl) (by kernel_rfl)) (by rfl) ⟨_,_,rfl,?_,ke HE6 HS1 _ _ _⟩;exact w8_ (B1_ HR6 (Nat.lt_succ_self _) (T2_ _ _ _ _ _)) (n8 HS1 (Nat.le_succ _))
theorem Q3_ (n F:Nat) (P:oQ) (C M:oP) (X:oQ) (v:Value) (w:World) (hV:bZ w v P C M) (hR:iT n F P C M) (hn4:n<=4) (hml:M.length<=n) (hX:fp M M.length=X) (hb:∀ x∈X,x.natAbs<=1000000000) (oS:bg w) (hp:3<w.heap.size) :
  Calls prog 24 #[v] w fun e w'=>∃ a c,e=.returned (.tuple #[.agg #[.int .i64 n,.int .i64 M.length,.slice a X.length c],.int .i64 0])/\aR 1 numC w' (.slice a X.length c) X/\aA w w' :=
 (a9_ n F P C M X v w hV hR hn4 hml hX hb oS hp).mono fun e w' ⟨a,c,h1,h2,h3⟩=>⟨a,c,h1,numC.of_owns h2,h3⟩
def dy (X:oQ):Nat->Int
 | 0=>0
 | i+1=>dy X i+((X.getD i 0).natAbs:Int)
def fM (X:oQ):Nat->Int
 | 0=>0
 | i+1=>if fM X i<((X.getD i 0).natAbs:Int) then ((X.getD i 0).natAbs:Int) else fM X i
theorem lK (X:oQ):∀ i,0<=dy X i
 | 0=>Int.le_refl _
 | i+1=>by have:=lK X i;unfold dy;omega
theorem z4_ (X:oQ):∀ {i j},i<=j->dy X i<=dy X j:=by
 intro i j h
 induction h with
 | refl=>exact Int.le_refl _
 | step h ih=>refine Int.le_trans ih ?_;show _<=dy X _+_;omega
theorem q6_ (X:oQ):∀ i,0<=fM X i/\fM X i<=dy X i
 | 0=>⟨Int.le_refl _,Int.le_refl _⟩
 | i+1=>by
  have:=q6_ X i;have:=lK X i;unfold fM dy
  split <;> constructor <;> omega
theorem Z3X {x:Int} (h:x.natAbs<=1000000000):(aB x).size<=2000 :=
 Q1_ (n:=x) (k:=10) (Nat.lt_of_le_of_lt h (by decide)) (by decide) (by decide)
theorem Z1w:aB 0=⟨#[48]⟩:=by decide +kernel
theorem G9_ (n F:Nat) (P:oQ) (C M:oP) (X:oQ) (v:Value) (w:World) (hV:bZ w v P C M) (hR:iT n F P C M) (hn4:n<=4) (hml:M.length<=n) (hX:fp M M.length=X) (hb:dy X X.length<=1000000000) (oS:bg w) (hp:3<w.heap.size) :
  oL 62 #[v] w (.tuple #[.string (aB (dy X X.length)),.string (aB (fM X X.length)),.int .i64 0]):=by
 have hx:∀ x∈X,x.natAbs<=1000000000:=fun x hx=>by
  obtain ⟨i,hi,rfl⟩:=List.mem_iff_getElem.1 hx;have h1:=z4_ X (show i+1<=X.length by omega);have h2:=lK X i;have h3:dy X (i+1)=dy X i+((X.getD i 0).natAbs:Int):=rfl;rw [nu,ns hi,Option.getD_some] at h3;omega
 have HW:=np (fun W (hW:aA w W)=>Q3_ n F P C M X v W (hV.ext hW) hR hn4 hml hX hx (oS.ext hW) (n7 hp hW.size));have xp:Hid (∀ i,i<X.length->∀ W,aA w W->oL 116 #[.string (aB (dy X i)),.string (aB ((X.getD i 0).natAbs:Int))] W (.string (aB (dy X (i+1))))):=fun i hi W hW=>by
  have h1:=z4_ X (show i+1<=X.length by omega);have h2:=lK X i;have h3:dy X (i+1)=dy X i+((X.getD i 0).natAbs:Int):=rfl;exact M1_ _ _ W (n8 (Z3X (by omega)) (by decide)) (n8 (Z3X (by omega)) (by decide)) (oS.pow.ext hW)
 have HCM:Hid (∀ i,i<X.length->∀ W,oL 152 #[.string (aB ((X.getD i 0).natAbs:Int)),.string (aB (fM X i))] W (.int .i64 (eT ((X.getD i 0).natAbs:Int) (fM X i)))):=fun i hi W=>by
  have h1:=z4_ X (show i+1<=X.length by omega);have h2:=lK X i;have h3:dy X (i+1)=dy X i+((X.getD i 0).natAbs:Int):=rfl;have h4:=q6_ X i;exact l2_ _ _ W (n8 (Z3X (by omega)) (by decide)) (n8 (Z3X (by omega)) (by decide))
 have HSH:=np (fun W (hW:aA w W)=>Q2_ (dy X X.length) W (by have:=lK X X.length;omega) hb (oS.ext hW));obtain ⟨vp,vc,vm,rfl,pZ,qI,pz⟩:=hV;obtain ⟨ap,cp,rfl,-⟩:=pZ.open;obtain ⟨ac,cc,rfl,-⟩:=aP.open qI;obtain ⟨am,cm,rfl,-⟩:=aP.open pz;have HZ:=np Z1w;clear pZ qI pz hR oS hp hb hX hml hn4 hx
 go_enter func62,ntmps62
 obtain ⟨W1,oZ,hE1,hs1,hb1⟩:=fv w (.slice ap P.length cp) (.slice ac C.length cc) (.slice am M.length cm);have HE1:=np hE1;obtain ⟨b0,b1,b2,-⟩:=bc hb1;clear hE1 hs1 hb1;go_wp2_with fail;refine (HW _ HE1).mono ?_;rintro e w4 ⟨a4,c4,rfl,hx4,hE4⟩;clear HW b0 b1 b2 oZ;obtain ⟨V5,FZ,s5,hs5,hb5⟩:=mb w4 (.int .i64 0) (.int .i64 0) (.slice none 0 0);have r0:=ag hb5;have f0:=cO hb5;have HB5:=np (kf hb5 (.int .i64 n) (.int .i64 M.length) (.slice a4 X.length c4));have HX5:=np (ke (B:=w4.heap.size) s5 (n9 _) (.int .i64 n) (.int .i64 M.length) (.slice a4 X.length c4));obtain ⟨U5,Bi⟩:=oN (((V5.setCell ⟨w4.heap.size,0,none⟩ (.int .i64 n)).setCell ⟨w4.heap.size,1,none⟩ (.int .i64 M.length)).setCell ⟨w4.heap.size,2,none⟩ (.slice a4 X.length c4));rw [Bi] at HB5 HX5;have HEU:Hid (aA w U5):=(HE1.trans hE4).trans HX5;have hru:=K4_ (aR.ext numC.mono' hx4 HX5);have s1:=ag HB5;obtain ⟨a,c,hsl,h1,h2,-,hc⟩:=aP.open hru;simp only [Value.slice.injEq] at hsl;obtain ⟨rfl,-,rfl⟩:=hsl;unfold maxLen at h2;have HC:=np hc;clear s5 hs5 hb5 hx4 hE4 HX5 hru hc;go_wp2_with fail;clear Bi FZ r0 f0 s1
 go_loopw [2,3,21] (fun s m t wr=>∃ i:Nat,i<=X.length/\Hid (s=.string (aB (dy X i)))/\Hid (m=.string (aB (fM X i)))/\t=.int .i64 i/\Hid (aA U5 wr)) (fun _ _ t _=>X.length-(intOf t).toNat)
 case atStart=>exact ⟨0,by omega,by unfold Hid dy;rw [HZ.out],by unfold Hid fM;rw [HZ.out],rfl,aA.refl _⟩
 case round =>
  obtain ⟨i,hi,hs,hm,rfl,HE⟩:=hrel;obtain rfl:=hs.out;obtain rfl:=hm.out;obtain ⟨wo,rfl⟩:∃ wo:World,wo=wr:=⟨_,rfl⟩;have HEo:=np (HEU.trans HE);clear hs hm;by_cases hlt:i<X.length
  ·obtain ⟨b,off,rfl,hb,hcell⟩:=HC (by intro e;rw [e] at hlt;simp at hlt);obtain ⟨vx,pV,o7⟩:=hcell i (X[i]) (ns hlt);obtain rfl:vx=.string (aB (X[i])):=pV;have IU:X.getD i 0=X[i]:=(by rw [nu,ns hlt,Option.getD_some]);have g1:=HE.cell o7;have HAB:=np (fun W=>z5_ (X[i]) W);rw [<- IU] at g1 HAB;have HA:=np (xp i hlt);have HCC:=np (HCM i hlt);have zh:Hid (fM X (i+1)=if fM X i<((X.getD i 0).natAbs:Int) then ((X.getD i 0).natAbs:Int) else fM X i):=rfl;obtain ⟨x,hx⟩:=oN (X.getD i 0);obtain ⟨y,hy⟩:∃ y:Int,((X.getD i 0).natAbs:Int)=y:=⟨_,rfl⟩;obtain ⟨m0,ET⟩:=oN (fM X i);obtain ⟨m1,ph⟩:=oN (fM X (i+1));rw [hy] at HA HCC zh HAB;rw [ET] at HCC zh |-;rw [ph] at zh;rw [hx] at g1 HAB;have HM1:=np ph;clear hcell o7 IU hx hy ET ph;go_wp2_with fail;refine p_ (HAB _) (HE.trans) ?_;intro w6 HE6;clear HE HAB g1;go_wp2_with fail;refine p_ (HA _ (HEU.trans HE6)) (HE6.trans) ?_;intro w7 HE7;clear HE6 HA;go_wp2_with fail;refine p_ (HCC _) (HE7.trans) ?_;intro w8 HE8;clear HE7 HCC;by_cases x9:m0<y
   ·have yI:eT y m0=1:=(by unfold eT;rw [if_neg (by omega),if_neg (by omega)]);have hmm:=zh.out;rw [if_pos x9] at hmm;rw [yI];have HMM:=np hmm;clear hmm x9 zh yI;go_wp2_with fail;go_roundw
    case rel=>exact ⟨i+1,by omega,rfl,by unfold Hid;rw [HM1.out,HMM.out],by go_num,HE8⟩
    case measure=>simp [intOf];omega
   ·have yI:¬ (0<eT y m0):=(by unfold eT;split;exact (by decide);split;exact (by decide);omega);have hmm:=zh.out;rw [if_neg x9] at hmm;have HMM:=np hmm;clear hmm x9 zh;go_wp2_with fail;go_roundw
    case rel=>exact ⟨i+1,by omega,rfl,by unfold Hid;rw [HM1.out,HMM.out],by go_num,HE8⟩
    case measure=>simp [intOf];omega
  ·obtain rfl:i=X.length:=(by omega);go_wp2_with fail;refine p_ (HSH _ HEo) (HEo.trans) ?_;intro w9 HE9;clear HSH;go_wp2_with fail;go_ret3;exact ⟨rfl,HE9⟩
def strR (_:World) (u:List Value) (s:ByteArray):Prop:=u=[.string s]
theorem strR.mono:gT strR:=fun _ _ _ _ _ h=>h
theorem C1_:(prog.info? 9).map (fun i=>(i.zero,i.size,i.bytes))=some (some (.string ⟨#[]⟩),1,16):=by kernel_rfl
def eM (n:Int):ByteArray:=⟨(Lib.itoa n).toArray⟩
theorem O7_ (u:Nat) (h:u<=1000000000):Lib.nDigits u<=10:=by
 by_cases h0:u<10;·rw [Lib.nDigits_small h0];omega
 ·rw [Lib.nDigits_big h0];by_cases h1:u / 10<10;·rw [Lib.nDigits_small h1];omega
  ·rw [Lib.nDigits_big h1];by_cases h2:u / 10 / 10<10;·rw [Lib.nDigits_small h2];omega
   ·rw [Lib.nDigits_big h2];by_cases h3:u / 10 / 10 / 10<10;·rw [Lib.nDigits_small h3];omega
    ·rw [Lib.nDigits_big h3];by_cases h4:u / 10 / 10 / 10 / 10<10;·rw [Lib.nDigits_small h4];omega
     ·rw [Lib.nDigits_big h4];by_cases h5:u / 10 / 10 / 10 / 10 / 10<10;·rw [Lib.nDigits_small h5];omega
      ·rw [Lib.nDigits_big h5];by_cases h6:u / 10 / 10 / 10 / 10 / 10 / 10<10;·rw [Lib.nDigits_small h6];omega
       ·rw [Lib.nDigits_big h6];by_cases h7:u / 10 / 10 / 10 / 10 / 10 / 10 / 10<10;·rw [Lib.nDigits_small h7];omega
        ·rw [Lib.nDigits_big h7];by_cases h8:u / 10 / 10 / 10 / 10 / 10 / 10 / 10 / 10<10;·rw [Lib.nDigits_small h8];omega
         ·rw [Lib.nDigits_big h8,Lib.nDigits_small (by omega)];omega
theorem f5_ (n:Int) (h1:-1000000000<=n) (h2:n<=1000000000):1<=(Lib.itoa n).length/\(Lib.itoa n).length<=11:=by
 unfold Lib.itoa
 split
 ·rw [List.length_cons,Lib.decDigits_length];have:=O7_ n.natAbs (by omega);omega
 ·rw [Lib.decDigits_length];have:=O7_ n.toNat (by omega);have:=Lib.nDigits_pos n.toNat;omega
theorem Z1E (A:Nat):∀ xs:List (List UInt8),(∀ x∈xs,x.length<=A)->Lib.lens xs<=A*xs.length
 | [],_=>by simp [Lib.lens]
 | x::xs,h=>by
  have h1:=h x (by simp);have h2:=Z1E A xs (fun y hy=>h y (by simp [hy]));simp only [Lib.lens,List.map_cons,List.sum_cons,List.length_cons,Nat.mul_succ] at h2 |-;omega
theorem f6_ (A:Nat) (sep:List UInt8) (xs:List (List UInt8)) (h:∀ x∈xs,x.length<=A):(Lib.join xs sep).length<=(A+sep.length)*xs.length:=by
 cases xs with
 | nil=>simp [Lib.join,List.intercalate]
 | cons x xs =>
  rw [Lib.join_cons,oJ,Lib.joinTail_length];have h1:=h x (by simp);have h2:=Z1E A xs (fun y hy=>h y (by simp [hy]));simp only [List.length_cons,Nat.mul_succ,Nat.add_mul];omega
theorem aj.sl {α:Type} {R:World->List Value->α->Prop} {w:World} {base:Nat} {e:TypeId} {k:Nat} {v:Value} {xs:List α} (h:aj w base e k v R xs):∃ a c,v=.slice a xs.length c:=by
 obtain ⟨us,h1,h2,h3,h4⟩:=h;rcases h3.2 with ⟨rfl,hn⟩ | ⟨g,cap,cur,rfl,-⟩
 ·exact ⟨none,0,by rw [hn]⟩
 ·exact ⟨_,_,rfl⟩
def iJ (xs:oQ):List UInt8:=Lib.join (xs.map Lib.itoa) [32]
def gL (xs:oQ) (ket:Bool):List UInt8:=if ket then 91::(iJ xs++[62]) else 60::(iJ xs++[93])
theorem e6_ {a b:ByteArray} {v:Value} (h:a.data.toList=b.data.toList):Ending.returned (.tuple #[.string a,v])=.returned (.tuple #[.string b,v]):=by
 have:a=b:=by
  cases a;cases b;simp only at h;rw [ByteArray.mk.injEq];exact Array.toList_inj.1 h
 rw [this]
theorem Z2g (xs:oQ) (ket:Bool) (v:Value) (w:World) (h:aK w v xs) (ht:aZ w) :
  oL 176 #[v,.bool ket] w (.tuple #[.string ⟨(if dC xs=0 then gL xs ket else []).toArray⟩,.int .i64 (dC xs)]):=by
 have HCK:=np (V0_ xs v w h);obtain ⟨a,c,rfl,h1,h2,-,-,hc⟩:=h.open;have HC:=np hc;have HT:=np ht;unfold maxLen at h2;clear h hc ht;by_cases he:dC xs=0
 ·have HOK:=np ((mA xs).1 he);have h64:=HOK.1;rw [if_pos he,he];rw [he] at HCK;clear he
  go_enter func176,ntmps176
  go_wp2_with fail;refine o_ HCK ?_;intro w1 HE1;clear HCK;go_wp2_with fail
  go_loopw [7,18] (fun out t wr=>∃ j:Nat,j<=xs.length/\t=.int .i64 j/\aA w wr/\Hid (aj wr w.heap.size 9 1 out strR ((xs.map eM).take j))) (fun _ t _=>xs.length-(intOf t).toNat)
  case atStart=>exact ⟨0,by omega,rfl,HE1,aj.nil _ _ _ _ _⟩
  case round =>
   obtain ⟨j,hj,rfl,hE,pq⟩:=hrel;obtain ⟨wo,rfl⟩:∃ wo:World,wo=wr:=⟨_,rfl⟩;by_cases hlt:j<xs.length
   ·obtain ⟨b,off,rfl,hb,hcell⟩:=HC (by intro e;simp [e] at hlt);obtain ⟨x,hx⟩:∃ x,xs[j]?=some x:=⟨xs[j],ns hlt⟩;have g1:=hE.cell (hcell j x hx);obtain ⟨pM,r9⟩:=HOK.2 x (nw hx);have HN:Hid ((xs.map eM).take (j+1)=(xs.map eM).take j++[eM x]):=by
     unfold Hid;rw [nz,nx,hx];rfl
    have HJ:Hid (((xs.map eM).take j).length<1000000):=(by unfold Hid;rw [ny];omega);have HIT:=np (strconv_Itoa x (by omega) (by omega) wo (HT.ext hE));clear hcell hx;go_wp2_with fail;refine HIT.mono ?_;rintro e w2 ⟨rfl,kk,os,qw⟩;have hE2:aA wo w2:=(by rw [qw];exact Lib.below_grow _ wo (n9 _) kk os);have HBu2:=np (pq.ext hE2);have HE2:=np (aA.trans hE hE2);have hszr:=HE2.size;clear hE2 qw HIT;go_wp2_with (at_builtin;go_must (refine jY _ rfl _ _ 108 rfl w.heap.size 9 (.string ⟨#[]⟩) 1 16 underlying108 C1_ rfl (by decide) u7 strR ((xs.map eM).take j) (eM x) #[.string (eM x)] 9 rfl HBu2 rfl rfl ?e1 (fun _ _=>rfl) HJ (by decide) hszr ?_))
    case e1=>simp [Value.oneCell']
    intro v' w5 ow qM hb5 hs5 _;rw [<- HN.out] at ow;have HB5:=np ow;have HE5:=np (Below.trans HE2 hb5);clear ow qM hb5;go_wp2_with fail;go_roundw
    case rel=>exact ⟨j+1,by omega,by go_num,HE5,HB5⟩
    case measure=>simp [intOf];omega
   ·obtain rfl:j=xs.length:=(by omega);have hB:=pq.out;rw [List.take_of_length_le (by rw [List.length_map];omega)] at hB;have HL:Hid ((iJ xs).length<=1000):=by
     unfold Hid iJ
     have:=f6_ 11 [32] (xs.map Lib.itoa) (by
      intro x hx;obtain ⟨n,hn,rfl⟩:=List.mem_map.1 hx;have:=HOK.2 n hn
      exact (f5_ n this.1 this.2).2)
     simp only [List.length_map,List.length_cons,List.length_nil] at this;omega
    have zk:Hid (oL 178 #[u7,.string ⟨#[32]⟩] wo (.string ⟨(iJ xs).toArray⟩)):=by
     by_cases hn:xs.length=0
     ·have pQ:xs=[]:=List.eq_nil_of_length_eq_zero hn;subst pQ;obtain ⟨aa,cc,rfl⟩:=hB.sl;refine q_ (strings_Join_none aa cc ⟨#[32]⟩ wo) ?_;exact ⟨by simp [iJ,Lib.join,List.intercalate],aA.refl _⟩
     ·obtain ⟨us,b1,b2,b3,b4⟩:=id hB;obtain ⟨g,cap,rfl,h5,h6,h7,h8⟩:=ei b3 (by rw [List.length_map];omega);obtain ⟨aa,cc,hv,-,-,-,AE⟩:=aR.open hB.list;obtain ⟨bb,oo,FQ,qE,sv⟩:=AE (by omega) (by intro e;have:=congrArg List.length e;simp at this;exact hn (by simpa using this));subst FQ;simp only [Value.slice.injEq,Option.some.injEq,Addr.mk.injEq] at hv;obtain ⟨⟨rfl,rfl,-⟩,-,rfl⟩:=hv;have hmm:(xs.map eM).map (fun s=>s.data.toList)=xs.map Lib.itoa:=by
       rw [List.map_map];apply List.map_congr_left;intro y _;rfl
      have hj:=strings_Join g 0 cap (xs.map eM) ⟨#[32]⟩ wo (fun j x hx=>by
       obtain ⟨u,hu1,hu2,vS⟩:=sv j x hx;have:=vS 0 (by omega);rw [show u=[Value.string x] from hu2] at this
       simpa using this) qE (by rw [List.length_map];omega) h7 (by
        rw [hmm];have:=HL.out;unfold iJ at this;show (Lib.join (xs.map Lib.itoa) [32]).length<=_
        omega)
      rw [hmm] at hj;exact hj
    have HE:=np hE;obtain ⟨aa,cc,rfl⟩:=hB.sl;rw [List.length_map] at zk |-;clear hB hE;go_wp2_with fail
    ((with_reducible refine zk.out.mono ?_);rintro e w6 ⟨rfl,oU⟩)
    have HE6:=np (aA.trans HE oU);clear oU zk;have hll:=HL.out;have z1:¬ 9223372036854775807<1+(iJ xs).length:=(by omega);have z2:¬ 9223372036854775807<1+(iJ xs).length+1:=(by omega);cases ket
    ·go_wp2_with fail;go_ret2;exact ⟨e6_ (by simp [gL]),HE6⟩
    ·go_wp2_with fail;go_ret2;exact ⟨e6_ (by simp [gL]),HE6⟩
 ·have h4:dC xs=4:=(o5_ xs).resolve_left he;rw [if_neg he,h4];rw [h4] at HCK;clear he h4
  go_enter func176,ntmps176
  go_wp2_with fail;refine o_ HCK ?_;intro w1 HE1;clear HCK;go_wp2_with fail;go_ret2;exact ⟨rfl,HE1⟩
def jU (xs:oQ):List UInt8:=Lib.join (xs.map Lib.itoa) [46]
theorem v2_ (xs:oQ) (v:Value) (w:World) (h:aK w v xs) (ht:aZ w) (he:dM xs=0) (hb:∀ x∈xs,-1000000000<=x/\x<=1000000000) (h64:xs.length<=64) :
  oL 73 #[v] w (.tuple #[.string ⟨(jU xs).toArray⟩,.int .i64 0]):=by
 have HCK:=np (lz xs v w h);rw [he] at HCK;have HOK:=np hb;obtain ⟨a,c,rfl,h1,h2,-,-,hc⟩:=h.open;have HC:=np hc;have HT:=np ht;unfold maxLen at h2;clear h hc ht he hb
 go_enter func73,ntmps73
 go_wp2_with fail;refine q_ HCK ?_;have HE1:Hid (aA w w):=aA.refl w;clear HCK;go_wp2_with fail
 go_loopw [5,15] (fun out t wr=>∃ j:Nat,j<=xs.length/\t=.int .i64 j/\aA w wr/\Hid (aj wr w.heap.size 9 1 out strR ((xs.map eM).take j))) (fun _ t _=>xs.length-(intOf t).toNat)
 case atStart=>exact ⟨0,by omega,rfl,HE1,aj.nil _ _ _ _ _⟩
 case round =>
  obtain ⟨j,hj,rfl,hE,pq⟩:=hrel;obtain ⟨wo,rfl⟩:∃ wo:World,wo=wr:=⟨_,rfl⟩;by_cases hlt:j<xs.length
  ·obtain ⟨b,off,rfl,hb,hcell⟩:=HC (by intro e;simp [e] at hlt);obtain ⟨x,hx⟩:∃ x,xs[j]?=some x:=⟨xs[j],ns hlt⟩;have g1:=hE.cell (hcell j x hx);obtain ⟨pM,r9⟩:=HOK x (nw hx);have HN:Hid ((xs.map eM).take (j+1)=(xs.map eM).take j++[eM x]):=by
    unfold Hid;rw [nz,nx,hx];rfl
   have HJ:Hid (((xs.map eM).take j).length<1000000):=(by unfold Hid;rw [ny];omega);have HIT:=np (strconv_Itoa x (by omega) (by omega) wo (HT.ext hE));clear hcell hx;go_wp2_with fail;refine HIT.mono ?_;rintro e w2 ⟨rfl,kk,os,qw⟩;have hE2:aA wo w2:=(by rw [qw];exact Lib.below_grow _ wo (n9 _) kk os);have HBu2:=np (pq.ext hE2);have HE2:=np (aA.trans hE hE2);have hszr:=HE2.size;clear hE2 qw HIT;go_wp2_with (at_builtin;go_must (refine jY _ rfl _ _ 108 rfl w.heap.size 9 (.string ⟨#[]⟩) 1 16 underlying108 C1_ rfl (by decide) u5 strR ((xs.map eM).take j) (eM x) #[.string (eM x)] 9 rfl HBu2 rfl rfl ?e1 (fun _ _=>rfl) HJ (by decide) hszr ?_))
   case e1=>simp [Value.oneCell']
   intro v' w5 ow qM hb5 hs5 _;rw [<- HN.out] at ow;have HB5:=np ow;have HE5:=np (Below.trans HE2 hb5);clear ow qM hb5;go_wp2_with fail;go_roundw
   case rel=>exact ⟨j+1,by omega,by go_num,HE5,HB5⟩
   case measure=>simp [intOf];omega
  ·obtain rfl:j=xs.length:=(by omega);have hB:=pq.out;rw [List.take_of_length_le (by rw [List.length_map];omega)] at hB;have HL:Hid ((jU xs).length<=1000):=by
    unfold Hid jU
    have:=f6_ 11 [46] (xs.map Lib.itoa) (by
     intro x hx;obtain ⟨n,hn,rfl⟩:=List.mem_map.1 hx;have:=HOK n hn
     exact (f5_ n this.1 this.2).2)
    simp only [List.length_map,List.length_cons,List.length_nil] at this;omega
   have zk:Hid (oL 178 #[u5,.string ⟨#[46]⟩] wo (.string ⟨(jU xs).toArray⟩)):=by
    by_cases hn:xs.length=0
    ·have pQ:xs=[]:=List.eq_nil_of_length_eq_zero hn;subst pQ;obtain ⟨aa,cc,rfl⟩:=hB.sl;refine q_ (strings_Join_none aa cc ⟨#[46]⟩ wo) ?_;exact ⟨by simp [jU,Lib.join,List.intercalate],aA.refl _⟩
    ·obtain ⟨us,b1,b2,b3,b4⟩:=id hB;obtain ⟨g,cap,rfl,h5,h6,h7,h8⟩:=ei b3 (by rw [List.length_map];omega);obtain ⟨aa,cc,hv,-,-,-,AE⟩:=aR.open hB.list;obtain ⟨bb,oo,FQ,qE,sv⟩:=AE (by omega) (by intro e;have:=congrArg List.length e;simp at this;exact hn (by simpa using this));subst FQ;simp only [Value.slice.injEq,Option.some.injEq,Addr.mk.injEq] at hv;obtain ⟨⟨rfl,rfl,-⟩,-,rfl⟩:=hv;have hmm:(xs.map eM).map (fun s=>s.data.toList)=xs.map Lib.itoa:=by
      rw [List.map_map];apply List.map_congr_left;intro y _;rfl
     have hj:=strings_Join g 0 cap (xs.map eM) ⟨#[46]⟩ wo (fun j x hx=>by
      obtain ⟨u,hu1,hu2,vS⟩:=sv j x hx;have:=vS 0 (by omega);rw [show u=[Value.string x] from hu2] at this
      simpa using this) qE (by rw [List.length_map];omega) h7 (by
       rw [hmm];have:=HL.out;unfold jU at this;show (Lib.join (xs.map Lib.itoa) [46]).length<=_
       omega)
     rw [hmm] at hj;exact hj
   have HE:=np hE;obtain ⟨aa,cc,rfl⟩:=hB.sl;rw [List.length_map] at zk |-;clear hB hE;go_wp2_with fail
   ((with_reducible refine zk.out.mono ?_);rintro e w6 ⟨rfl,oU⟩)
   have HE6:=np (aA.trans HE oU);clear oU zk;go_wp2_with fail;go_ret2;exact ⟨rfl,HE6⟩
def eJ (P:oQ) (M:oP):Nat->ByteArray
 | 0=>⟨(jU P).toArray⟩
 | i+1=>eJ P M i++(⟨#[32]⟩++⟨(gL (aC M i) false).toArray⟩)
theorem Z1m (n F:Nat) (P:oQ) (C M:oP) (v:Value) (w:World) (hV:bZ w v P C M) (hR:iT n F P C M) (Ij:∀ x∈P,-1000000000<=x/\x<=1000000000) (hsz:∀ i,i<=M.length->(eJ P M i).size<=1000000) (oS:bg w) (hp:3<w.heap.size) :
  oL 71 #[v] w (.tuple #[.string (eJ P M M.length),.int .i64 0]):=by
 have HCK:=np (fun W (hW:aA w W)=>z1_ n F P C M v W (hV.ext hW) hR (oS.ext hW) (n7 hp hW.size));have hn6:=hR.n4;have hpl:=hR.pl;have hM:∀ r∈M,dC r=0:=fun r hr=>(mA r).2 ⟨by have:=(hR.bM r hr).2;omega,fun x hx=>by have:=(hR.bM r hr).1 x hx;omega⟩;obtain ⟨vp,vc,vm,rfl,pZ,qI,pz⟩:=hV;have HPT:=np (fun W (hW:aA w W)=>v2_ P vp W (pZ.ext hW) (oS.pow.ext hW) hR.pr Ij (by omega));have HRT:Hid (∀ W r vr,aA w W->aK W vr r->r∈M->oL 176 #[vr,.bool false] W (.tuple #[.string ⟨(gL r false).toArray⟩,.int .i64 0])):=fun W r vr hW hr hm=>by
  have:=Z2g r false vr W hr (oS.pow.ext hW);rw [hM r hm,if_pos rfl] at this;exact this
 obtain ⟨ap,cp,rfl,-⟩:=pZ.open;obtain ⟨ac,cc,rfl,-⟩:=aP.open qI;obtain ⟨am,cm,rfl,h1,h2,-,hc⟩:=aP.open pz;have HC:=np hc;have HSZ:=np hsz;unfold maxLen at h2;clear pZ qI pz hR oS hp hc hM Ij hn6 hpl hsz
 go_enter func71,ntmps71
 obtain ⟨W1,oZ,hE1,hs1,hb1⟩:=fv w (.slice ap P.length cp) (.slice ac C.length cc) (.slice am M.length cm);have HE1:=np hE1;have HB1:=np hb1;obtain ⟨b0,b1,b2,-⟩:=bc hb1;clear hE1 hs1 hb1;go_wp2_with fail;refine (HCK _ HE1).mono ?_;rintro e w2 ⟨rfl,hE2⟩;have HE2:=np (HE1.trans hE2);have HB2:=np (aF HB1 hE2);clear HCK b0 b1 b2 oZ hE2 HE1 HB1;obtain ⟨b0,b1,b2,-⟩:=bc HB2;go_wp2_with fail;refine (HPT _ HE2).mono ?_;rintro e w3 ⟨rfl,oT⟩;have HE3:=np (HE2.trans oT);have HB3:=np (aF HB2 oT);clear HPT b0 b1 b2 oT HE2 HB2;obtain ⟨b0,b1,b2,-⟩:=bc HB3;go_wp2_with fail;clear b0 b1 b2
 go_loopw [5,28] (fun s t wr=>∃ i:Nat,i<=M.length/\Hid (s=.string (eJ P M i))/\t=.int .i64 i/\Hid (aA w3 wr)) (fun _ t _=>M.length-(intOf t).toNat)
 case atStart=>exact ⟨0,by omega,rfl,rfl,aA.refl _⟩
 case round =>
  obtain ⟨i,hi,hs,rfl,HE⟩:=hrel;obtain rfl:=hs.out;obtain ⟨wo,rfl⟩:∃ wo:World,wo=wr:=⟨_,rfl⟩;have HEo:=np (HE3.trans HE);clear hs;by_cases hlt:i<M.length
  ·obtain ⟨b,off,rfl,hb,hcell⟩:=HC (by intro e;rw [e] at hlt;simp at hlt);obtain ⟨vx,pV,o7⟩:=hcell i _ (en hlt);have hmem:=eZ hlt;have HIX:=np (pV.ext HEo);obtain ⟨ax,cx,rfl,-⟩:=pV.open;have g1:=HEo.cell o7;have HNX:Hid (eJ P M (i+1)=eJ P M i++(⟨#[32]⟩++⟨(gL (aC M i) false).toArray⟩)):=rfl;have HMM:=np hmem;obtain ⟨r,hr⟩:=oN (aC M i);obtain ⟨s0,hs0⟩:=oN (eJ P M i);rw [hs0] at HNX |-;rw [hr] at HNX HMM HIX g1;clear hcell o7 pV hmem hr hs0;go_wp2_with fail;refine p_ (HRT _ _ _ HEo HIX HMM) (HE.trans) ?_;intro w6 HE6;clear HE g1 HIX;obtain ⟨tx,G8⟩:∃ tx:ByteArray,(⟨(gL r false).toArray⟩:ByteArray)=tx:=⟨_,rfl⟩;rw [G8] at HNX |-;have hz1:s0.size+(1+tx.size)<=1000000:=by
    have:=HSZ (i+1) (by omega);rw [HNX.out,ByteArray.size_append,ByteArray.size_append] at this;exact this
   have hz2:¬ (9223372036854775807<1+tx.size):=(by omega);have hz3:¬ (9223372036854775807<s0.size+(1+tx.size)):=(by omega);clear G8 hz1;go_wp2_with fail;go_roundw
   case rel=>exact ⟨i+1,by omega,by unfold Hid;rw [HNX.out],by go_num,HE6⟩
   case measure=>simp [intOf];omega
  ·obtain rfl:i=M.length:=(by omega);go_wp2_with fail;go_ret2;exact ⟨rfl,HEo⟩
theorem Z1x (n F:Nat) (P:oQ) (m R A S:oP) (vp v:Value) (w:World) (hP:aK w vp P) (h:aV w v m) (hE:dM P=0) (hPl:P.length=n) (hD:di n F m R A S) (oS:bg w) (hp:3<w.heap.size) :
  Calls prog 119 #[vp,v] w fun e w'=>∃ a c,e=.returned (.tuple #[.agg #[.int .i64 n,.slice a R.length c],.int .i64 0])/\aT w' (·<w.heap.size) (fun W=>aV W (.slice a R.length c) R)/\aA w w':=by
 obtain ⟨w1,qc,hE1,hs1,hb1⟩:=cL w (.int .i64 0) (.slice none 0 0);have HPC:=np (fun W (hW:aA w W)=>lz P vp W (hP.ext hW));rw [hE] at HPC;have HOF:=np (fun W (hW:aA w W)=>nR n F m R A S v W (h.ext hW) hD (oS.ext hW) (n7 hp hW.size));obtain ⟨ap,cp,rfl,p1,p2,-,-,-⟩:=hP.open;rw [hPl] at HPC |-;obtain ⟨a,c,rfl,-⟩:=aP.open h;have HE1:=np hE1;have HB1:=np hb1;have HS1:Hid (w.heap.size<w1.heap.size):=by unfold Hid;omega
 clear hP h hE hPl hD oS hp p1 p2 hE1 hb1 hs1
 go_enter func119,ntmps119
 go_wp2_with fail;clear qc;refine q_ (HPC w1 HE1) ?_;clear HPC;go_wp2_with fail;refine (HOF _ HE1).mono ?_;rintro e w2 ⟨u2,rfl,hu2,hE2⟩;obtain ⟨a2,c2,rfl,-⟩:=aR.open hu2.now;have HB2:=np (aF HB1 hE2);have HE2:=np (HE1.trans hE2);have HU:=np hu2;obtain ⟨r0,r1,rf⟩:=bG HB2;have f0:=rf 0;have f1:=rf 1;clear hE2 hu2 HOF HB1 rf;go_wp2_with fail;refine bodyPost_ret (nW (by rfl) _ _ w.heap.size 76 #[.int .i64 n,.slice a2 R.length c2] (0,0) _ (.int .i64 0) (by rfl) (by rfl) (eE HB2 _ _) underlying76 (by rfl) (by kernel_rfl)) (by rfl) ⟨_,_,rfl,?_,?_⟩
 ·have hG:aH (·<w1.heap.size) w2 ((w2.setCell ⟨w.heap.size,0,none⟩ (.int .i64 n)).setCell ⟨w.heap.size,1,none⟩ (.slice a2 R.length c2)) :=
   ((aH.refl _ w2).setCell (g:=w.heap.size) HS1 0 _).setCell (g:=w.heap.size) HS1 1 _
  exact HU.grow hG fun k hk=>.inl (Nat.lt_trans hk HS1)
 ·exact db HE2 (n9 _) _ _
theorem h0_ (n F:Nat) (P:oQ) (m R A S:oP) (vp v:Value) (w:World) (hP:aK w vp P) (h:aV w v m) (hE:dM P=0) (hPl:P.length=n) (hD:di n F m R A S) (q:Int) (HI:∀ W u,aA w W->bj W u n R->oL 120 #[u] W (.tuple #[.int .i64 q,.int .i64 0])) (oS:bg w) (hp:3<w.heap.size) :
  oL 38 #[vp,v] w (.tuple #[.int .i64 q,.int .i64 0]):=by
 have HO:=np (Z1x n F P m R A S vp v w hP h hE hPl hD oS hp);have HIX:=np HI;obtain ⟨ap,cp,rfl,-⟩:=hP.open;obtain ⟨a,c,rfl,-⟩:=aP.open h;clear hP h hE hPl hD oS hp HI
 go_enter func38,ntmps38
 go_wp2_with fail;refine HO.mono ?_;rintro e w1 ⟨a1,c1,rfl,hu1,hE1⟩;have HU1:=np hu1.now;have HE1:=np hE1;clear hE1 hu1 HO;obtain ⟨V1,wF,hX,hs,hb⟩:=cL w1 (.int .i64 0) (.slice none 0 0);obtain ⟨r0,r1,rf⟩:=bG hb;have f0:=rf 0;have f1:=rf 1;have HB1:=np (eE hb (.int .i64 n) (.slice a1 R.length c1));have HX1:=np (db hX (n9 _) (.int .i64 n) (.slice a1 R.length c1));clear hX hs hb rf;obtain ⟨U1,sO⟩:=oN ((V1.setCell ⟨w1.heap.size,0,none⟩ (.int .i64 n)).setCell ⟨w1.heap.size,1,none⟩ (.slice a1 R.length c1));rw [sO] at HB1 HX1;obtain ⟨s0,s1,-⟩:=bG HB1;have HEU1:=np (HE1.trans HX1);have HR1:=np (HU1.ext HX1);go_wp2_with fail;clear sO wF r0 r1 f0 f1;refine p_ (HIX _ _ HEU1 ⟨_,rfl,HR1⟩) (HEU1.trans) ?_;intro w2 HE2;clear s0 s1;go_wp2_with fail;go_ret2;exact ⟨rfl,HE2⟩
theorem F0_ (n F:Nat) (P:oQ) (m R A S:oP) (vp v:Value) (w:World) (hP:aK w vp P) (h:aV w v m) (hE:dM P=0) (hPl:P.length=n) (hD:di n F m R A S) (q:Int) (HI:∀ W u,aA w W->bj W u n R->oL 120 #[u] W (.tuple #[.int .i64 q,.int .i64 0])) (oS:bg w) (hp:3<w.heap.size) :
  oL 39 #[vp,v] w (.tuple #[.int .i64 q,.int .i64 0]):=by
 have HT:=np (h0_ n F P m R A S vp v w hP h hE hPl hD q HI oS hp);obtain ⟨ap,cp,rfl,-⟩:=hP.open;obtain ⟨a,c,rfl,-⟩:=aP.open h;clear hP h hE hPl hD oS hp HI
 go_enter func39,ntmps39
 go_wp2_with fail;refine HT.mono ?_;rintro e w1 ⟨rfl,hE1⟩;go_wp2_with fail;go_ret2;exact ⟨rfl,hE1⟩
theorem o8_ {P:Program} (w:World) (dT sT ty elem:TypeId) (g o dLen dCap:Nat) (a:Addr) (sLen sCap:Nat) (cur:Array Value) (t:TypeId) (cs:List Value) (sz:Nat)
  (hu:P.underlying dT=some (.slice elem)) (hs:(P.info? elem).map (·.size)=some sz)
  (hg:w.heap[g]?=some (.cells cur t (0,0))) (hn:cs.length=Nat.min sLen dLen*sz)
  (D0:∀ j v,cs[j]?=some v->w.cell? (a.add j)=some v) (qo:o+cs.length<=cur.size) (h1:∀ v∈cs,v.oneCell'=true) :
  (Builtin.copy_ #[dT,sT] ty #[.slice (some ⟨g,o,none⟩) dLen dCap,.slice (some a) sLen sCap]).run P w =
   .ok (goInt (Nat.min sLen dLen)) (w.setRow g (cur.toList.take o++cs++cur.toList.drop (o+cs.length)).toArray):=by
 have hl:=run_loadCells_list (P:=P) w a cs D0;have hst:=run_storeCells_at P g o t cs 0 cur w hg (by simpa using qo) h1;cases hq:P.info? elem with
 | none=>simp [hq] at hs
 | some i =>
  have hi:i.size=sz:=by simpa [hq] using hs
  simp [Builtin.copy_,run_underlying hu,Builtin.lenOf,Builtin.firstCells,sizeOf,typeInfo,hq,hi,<- hn,hl,hst]
end Go.Proofs.YtoonaddcfakamaaGreatDoor
