import Derived.Test.YtjlkkofmojgipaaGreatDoorWAB
import Derived.Test.YtjlkkofmojgipaaGreatDoorWAA
import Derived.WalkSmall
import Derived.IntWalk
import Derived.OwnWalk
import Derived.Lib.ConvBytes
import Derived.Test.YtjlkkofmojgipaaGreatDoorWAE
import Derived.Laws.AppendOwnNone
import Derived.Deep.Cut
import Derived.Test.YtjlkkofmojgipaaGreatDoorWBD
import Derived.Test.YtjlkkofmojgipaaGreatDoorWBB
import Derived.Test.YtjlkkofmojgipaaGreatDoorWAL
import Derived.Test.YtjlkkofmojgipaaGreatDoorWAM
import Derived.Test.YtjlkkofmojgipaaGreatDoorWAP
import Derived.Test.YtjlkkofmojgipaaGreatDoorWAN
import Derived.Test.YtjlkkofmojgipaaGreatDoorWAQ
namespace Go.Proofs.YtjlkkofmojgipaaGreatDoor
set_option linter.unusedVariables false
set_option linter.unusedSimpArgs false
def pieceJ (p:List Nat) (i:Nat):Nat:=p.getD i 0
theorem pieceJ_get {p:List Nat} {i x:Nat} (h:p[i]?=some x):pieceJ p i=x:=by
 unfold pieceJ;rw [List.getD_eq_getElem?_getD,h];rfl
theorem pieceJ_out {p:List Nat} {i:Nat} (h:p.length≤i):pieceJ p i=0:=by
 unfold pieceJ;rw [List.getD_eq_getElem?_getD,List.getElem?_eq_none h];rfl
theorem pieceJ_lt {p:List Nat} (h:Pcs p) (i:Nat):pieceJ p i<1000000000:=by
 by_cases hi:i<p.length
 ·rw [pieceJ_get (List.getElem?_eq_getElem hi)];exact h _ (List.getElem_mem hi)
 ·rw [pieceJ_out (by omega)];omega
theorem lv_take_piece (p:List Nat) (i:Nat):lv (p.take (i+1))=lv (p.take i)+pB i*pieceJ p i:=by
 by_cases hi:i<p.length
 ·have h:=List.getElem?_eq_getElem hi
  rw [lv_take_succ h,pieceJ_get h]
 ·rw [pieceJ_out (by omega),List.take_of_length_le (by omega),List.take_of_length_le (by omega)];rfl
theorem lv_snoc (l:List Nat) (x:Nat):lv (l++[x])=lv l+pB l.length*x:=by
 rw [lv_append,lv_cons,lv_nil,Nat.mul_zero,Nat.add_zero]
structure PlusJ (p q:List Nat) (i c:Nat) (L:List Nat):Prop where
 len:L.length=i
 pcs:Pcs L
 le:c≤1
 val:lv L+c*pB i=lv (p.take i)+lv (q.take i)
theorem PlusJ.start (p q:List Nat):PlusJ p q 0 0 []:=⟨rfl,Pcs.nil,by omega,by simp [lv_nil]⟩
theorem PlusJ.step {p q L:List Nat} {i c s:Nat} (h:PlusJ p q i c L) (hp:Pcs p) (hq:Pcs q) (hs:s=c+pieceJ p i+pieceJ q i):PlusJ p q (i+1) (s / 1000000000) (L++[s%1000000000]):=by
 have h1:=pieceJ_lt hp i
 have h2:=pieceJ_lt hq i
 have h3:=h.le
 refine ⟨by rw [List.length_append,h.len];rfl,h.pcs.append (Pcs.cons (by omega) Pcs.nil),by omega,?_⟩
 rw [lv_snoc,h.len,lv_take_piece,lv_take_piece,pB_succ]
 have hv:=h.val
 have e:=Nat.div_add_mod s 1000000000
 generalize s / 1000000000=d at *
 generalize s%1000000000=m at *
 subst hs
 generalize lv L=A at *
 generalize pB i=P at *
 grind
theorem PlusJ.done {p q L:List Nat} {i:Nat} (h:PlusJ p q i 0 L) (h1:p.length≤i) (h2:q.length≤i):lv L=lv p+lv q:=by
 have:=h.val
 rw [List.take_of_length_le h1,List.take_of_length_le h2,Nat.zero_mul,Nat.add_zero] at this
 exact this
structure MinusJ (p q:List Nat) (i b:Nat) (L:List Nat):Prop where
 len:L.length=i
 pcs:Pcs L
 le:b≤1
 val:lv L+lv (q.take i)=lv (p.take i)+b*pB i
theorem MinusJ.start (p q:List Nat):MinusJ p q 0 0 []:=⟨rfl,Pcs.nil,by omega,by simp [lv_nil]⟩
theorem MinusJ.step {p q L:List Nat} {i b x b':Nat} (h:MinusJ p q i b L) (hx:x<1000000000) (hb:b'≤1) (he:x+pieceJ q i+b=pieceJ p i+b'*1000000000):MinusJ p q (i+1) b' (L++[x]):=by
 refine ⟨by rw [List.length_append,h.len];rfl,h.pcs.append (Pcs.cons hx Pcs.nil),hb,?_⟩
 rw [lv_snoc,h.len,lv_take_piece,lv_take_piece,pB_succ]
 have hv:=h.val
 have h2:pB i*(x+pieceJ q i+b)=pB i*(pieceJ p i+b'*1000000000):=by rw [he]
 generalize pB i=P at *
 grind
theorem MinusJ.done {p q L:List Nat} {b:Nat} (h:MinusJ p q p.length b L) (hp:Pcs p) (hq:q.length≤p.length) (hl:lv q≤lv p):lv L=lv p-lv q∧b=0:=by
 have hv:=h.val
 rw [List.take_of_length_le (Nat.le_refl _),List.take_of_length_le hq] at hv
 have h1:=lv_lt h.pcs
 rw [h.len] at h1
 have h2:=h.le
 have hb:b=0:=by
  false_or_by_contra
  have:b=1:=by omega
  subst this
  omega
 subst hb
 omega
structure TimJ (p q:List Nat) (i:Nat) (L:List Nat):Prop where
 len:L.length=p.length+q.length+1
 pcs:Pcs L
 val:lv L=lv (p.take i)*lv q
structure TimJK (p q:List Nat) (i x k c:Nat) (L:List Nat):Prop where
 len:L.length=p.length+q.length+1
 pcs:Pcs L
 lt:c<1000000000
 val:lv L+c*pB (i+k)=lv (p.take i)*lv q+x*(lv (q.take k)*pB i)
theorem TimJ.start (p q:List Nat):TimJ p q 0 (List.replicate (p.length+q.length+1) 0) :=
 ⟨by simp,Pcs.zeros _,by rw [lv_zeros,List.take_zero,lv_nil,Nat.zero_mul]⟩
theorem TimJ.enter {p q L:List Nat} {i:Nat} (x:Nat) (h:TimJ p q i L):TimJK p q i x 0 0 L :=
 ⟨h.len,h.pcs,by omega,by rw [h.val,List.take_zero,lv_nil];simp⟩
theorem TimJK.step {p q L:List Nat} {i x k c a y c':Nat} (h:TimJK p q i x k c L) (ha:L[i+k]?=some a) (hx:x<1000000000) (hq:Pcs q) (hc:c'=c+a+x*pieceJ q k) (hy:y=c'%1000000000) :
  TimJK p q i x (k+1) (c' / 1000000000) (L.set (i+k) y):=by
 have h1:=h.lt
 have h2:=h.pcs.get ha
 have h3:=pieceJ_lt hq k
 have h4:x*pieceJ q k≤999999999*999999999:=Nat.mul_le_mul (by omega) (by omega)
 refine ⟨by rw [List.length_set];exact h.len,h.pcs.set _ _ (by omega),by omega,?_⟩
 exact times_round (P:=pB (i+k)) (P':=pB (i+k+1)) (c:=c) (x:=a) (y:=y) (ab:=x*pieceJ q k) (acc2:=x*(lv (q.take (k+1))*pB i)) (pB_succ _) h.val hc hy (lv_set y ha) (by
   rw [lv_take_piece,pB_add];grind)
theorem TimJK.leave {p q L:List Nat} {i x k:Nat} (h:TimJK p q i x k 0 L) (hk:q.length≤k) (hx:p[i]?=some x):TimJ p q (i+1) L:=by
 refine ⟨h.len,h.pcs,?_⟩
 have h2:=h.val
 rw [List.take_of_length_le hk,Nat.zero_mul,Nat.add_zero] at h2
 rw [h2,lv_take_succ hx]
 grind
structure DivJ (p q:List Nat) (i:Nat) (L:List Nat) (R:Nat):Prop where
 len:L.length=p.length
 pcs:Pcs L
 low:∀ j,j<i→L[j]?=some 0∨p.length≤j
 val:lv (p.drop i)=lv (L.drop i)*lv q+R
 lt:R<lv q
theorem DivJ.start (p q:List Nat) (hq:0<lv q):DivJ p q p.length (List.replicate p.length 0) 0 :=
 ⟨by simp,Pcs.zeros _,fun j hj=>.inl (by rw [List.getElem?_replicate,if_pos hj]),by rw [List.drop_length,List.drop_eq_nil_of_le (by simp)];simp [lv_nil],hq⟩
theorem DivJ.step {p q L:List Nat} {i R x d:Nat} (h:DivJ p q (i+1) L R) (hx:p[i]?=some x) (hp:Pcs p) (hd:d=(x+1000000000*R) / lv q) :
  DivJ p q i (L.set i d) ((x+1000000000*R)-d*lv q)∧d<1000000000∧d*lv q≤x+1000000000*R:=by
 have hi:=(List.getElem?_eq_some_iff.1 hx).1
 have hxb:=hp.get hx
 have hlt:=h.lt
 have h0:0<lv q:=by omega
 have hdb:d<1000000000:=by
  rw [hd,Nat.div_lt_iff_lt_mul h0]
  have:(R+1)*1000000000≤lv q*1000000000:=Nat.mul_le_mul_right _ hlt
  omega
 have e:=Nat.div_add_mod (x+1000000000*R) (lv q)
 have e2:=Nat.mod_lt (x+1000000000*R) h0
 rw [← hd] at e
 have e3:lv q*d=d*lv q:=Nat.mul_comm _ _
 refine ⟨⟨by rw [List.length_set];exact h.len,h.pcs.set _ _ hdb,fun j hj=>?_,?_,by omega⟩,hdb,by omega⟩
 ·rw [List.getElem?_set,if_neg (by omega)]
  exact h.low j (by omega)
 ·have hL:(L.set i d)[i]?=some d:=by rw [List.getElem?_set,if_pos rfl,if_pos (by rw [h.len];exact hi)]
  rw [lv_drop_succ hx,lv_drop_succ hL,List.drop_set_of_lt (by omega),h.val,Nat.add_mul]
  have:1000000000*lv (L.drop (i+1))*lv q=1000000000*(lv (L.drop (i+1))*lv q):=Nat.mul_assoc _ _ _
  omega
theorem DivJ.done {p q L:List Nat} {R:Nat} (h:DivJ p q 0 L R):lv L=lv p / lv q∧R=lv p%lv q:=by
 have hv:=h.val
 rw [List.drop_zero,List.drop_zero] at hv
 have hlt:=h.lt
 rw [hv,Nat.mul_comm]
 constructor
 ·rw [Nat.mul_add_div (by omega),Nat.div_eq_of_lt hlt];rfl
 ·rw [Nat.mul_add_mod,Nat.mod_eq_of_lt hlt]
end Go.Proofs.YtjlkkofmojgipaaGreatDoor
namespace Go.Proofs.YtjlkkofmojgipaaGreatDoor
set_option linter.unusedVariables false
set_option linter.unusedSimpArgs false
open Go.RowKit
def pcJ (x:Nat):Value:=.int .i64 x
def OwnJ (B:Nat) (w:World) (v:Value) (l:List Nat):Prop:=w.ownsRow B 3 1 v l.length (l.map pcJ)
def pcRJ (_:World) (u:List Value) (x:Nat):Prop:=u=[pcJ x]
theorem pcRJ.mono:Mono pcRJ:=fun _ _ _ _ _ h=>h
abbrev PcsJ (w:World) (v:Value) (l:List Nat):Prop:=ListAt 1 pcRJ w v l
theorem PcsJ.ext {w w':World} {v:Value} {l:List Nat} (h:PcsJ w v l) (he:Ext w w'):PcsJ w' v l:=ListAt.ext pcRJ.mono h he
theorem OwnJ.at {B:Nat} {w:World} {v:Value} {l:List Nat} (h:OwnJ B w v l):PcsJ w v l:=by
 refine ⟨l.map fun x=>[pcJ x],by simp,by simp,?_,?_⟩
 ·have:=SeqAt.of_owns h
  rwa [flatten_one]
 ·intro j u x hu hx
  simp only [List.getElem?_map,hx,Option.map_some,Option.some.injEq] at hu
  exact hu.symm
theorem OwnJ.ext {B:Nat} {w w':World} {v:Value} {l:List Nat} (h:OwnJ B w v l) (he:Ext w w'):OwnJ B w' v l:=owns_ext h he
theorem OwnJ.form {B:Nat} {w:World} {v:Value} {l:List Nat} (h:OwnJ B w v l):∃ a cap,v=.slice a l.length cap∧l.length≤cap∧cap≤9223372036854775807∧(l≠[]→∃ g,a=some ⟨g,0,none⟩∧B≤g∧g<w.heap.size):=by
 rcases h.2 with ⟨rfl,hn⟩ | ⟨g,cap,cur,rfl,hb,hg,h1,h2,h3,h4⟩
 ·exact ⟨none,0,by rw [hn],by omega,by omega,fun hne=>absurd (List.length_eq_zero_iff.1 hn) hne⟩
 ·exact ⟨_,cap,rfl,h1,h2,fun _=>⟨g,rfl,hb,(Array.getElem?_eq_some_iff.1 hg).1⟩⟩
theorem OwnJ.base {B B':Nat} {w:World} {v:Value} {l:List Nat} (h:OwnJ B w v l) (hb:B'≤B):OwnJ B' w v l:=by
 refine ⟨h.1,?_⟩
 rcases h.2 with h' | ⟨g,cap,cur,e,hg,rest⟩
 ·exact .inl h'
 ·exact .inr ⟨g,cap,cur,e,Nat.le_trans hb hg,rest⟩
theorem OwnJ.nil (B:Nat) (w:World):OwnJ B w (.slice none 0 0) []:=World.ownsRow_nil w B 3 1
theorem OwnJ.get {B g n cap:Nat} {w:World} {l:List Nat} (h:OwnJ B w (.slice (some ⟨g,0,none⟩) n cap) l) {k x:Nat} (hx:l[k]?=some x) :
  w.cell? ⟨g,k,none⟩=some (.int .i64 x)∧w.frozen? ⟨g,k,none⟩=false:=by
 have hk:k<l.length:=(List.getElem?_eq_some_iff.1 hx).1
 have hn:n=l.length:=by
  rcases h.2 with ⟨e,_⟩ | ⟨g',cap',cur,e,_⟩
  ·cases e
  ·simp only [Value.slice.injEq] at e;exact e.2.1
 subst hn
 exact ⟨(World.ownsRow.cellAt h k (by simpa using hk)).trans (by simp [hx,pcJ]),World.ownsRow.frozenAt h k⟩
theorem OwnJ.set {B g n cap:Nat} {w:World} {l:List Nat} (h:OwnJ B w (.slice (some ⟨g,0,none⟩) n cap) l) (k x:Nat) :
  OwnJ B (w.setCell ⟨g,k,none⟩ (.int .i64 x)) (.slice (some ⟨g,0,none⟩) n cap) (l.set k x):=by
 have hn:n=l.length:=by
  rcases h.2 with ⟨e,_⟩ | ⟨g',cap',cur,e,_⟩
  ·cases e
  ·simp only [Value.slice.injEq] at e;exact e.2.1
 subst hn
 unfold OwnJ at h ⊢
 rw [List.map_set,List.length_set];exact (World.ownsRow.stored h k _).1
theorem OwnJ.take {B g n cap:Nat} {w:World} {l:List Nat} (h:OwnJ B w (.slice (some ⟨g,0,none⟩) n cap) l) (m:Nat) (hm:m≤l.length) :
  OwnJ B w (.slice (some ⟨g,0,none⟩) m cap) (l.take m):=by
 have hl:(l.take m).length=m:=by rw [List.length_take];omega
 refine ⟨by rw [List.length_map,Nat.mul_one],.inr ?_⟩
 rcases h.2 with ⟨e,_⟩ | ⟨g',cap',cur,e,hb,hg,h1,h2,h3,h4⟩
 ·cases e
 ·simp only [Value.slice.injEq,Option.some.injEq,Addr.mk.injEq] at e
  obtain ⟨⟨rfl,-,-⟩,rfl,rfl⟩:=e
  refine ⟨g,cap,cur,by rw [hl],hb,hg,by omega,h2,h3,?_⟩
  rw [Nat.mul_one] at h4 ⊢
  rw [List.map_take,← h4,List.take_take,hl,Nat.min_eq_left (by omega)]
theorem OwnJ.len {B g n cap:Nat} {w:World} {l:List Nat} (h:OwnJ B w (.slice (some ⟨g,0,none⟩) n cap) l):n=l.length:=by
 rcases h.2 with ⟨e,_⟩ | ⟨g',cap',cur,e,_⟩
 ·cases e
 ·simp only [Value.slice.injEq] at e;exact e.2.1
theorem PcsJ.open {w:World} {v:Value} {l:List Nat} (h:PcsJ w v l) :
  ∃ (a:Option Addr) (cap:Nat),v=.slice a l.length cap∧l.length≤cap∧cap≤9223372036854775807 ∧
   (l≠[]→∃ b off,a=some ⟨b,off,none⟩∧b<w.heap.size∧∀ (j:Nat) x,l[j]?=some x→w.cell? ⟨b,off+j,none⟩=some (.int .i64 x)):=by
 obtain ⟨a,cap,hv,h1,h2,h3,h4⟩:=ListAt.open h
 refine ⟨a,cap,hv,h1,h2,fun hx=>?_⟩
 obtain ⟨b,off,ha,hb,hc⟩:=h4 (by omega) hx
 refine ⟨b,off,ha,hb,fun j x hj=>?_⟩
 obtain ⟨u,_,hr,hcell⟩:=hc j x hj
 have:=hcell 0 (by omega)
 rw [hr] at this
 simpa [pcJ] using this
theorem OwnJ.made {B n:Nat} {w:World} {v:Value} (h:w.ownsRow B 3 1 v n (madeCells #[.int .i64 0] n).toList):OwnJ B w v (List.replicate n 0):=by
 unfold OwnJ
 rw [List.length_replicate]
 have e:(madeCells #[Value.int .i64 0] n).toList=(List.replicate n 0).map pcJ:=(toList_madeCells_one _ _).trans (by simp [pcJ])
 rwa [e] at h
theorem OwnJ.build {B:Nat} {w:World} {v:Value} {l:List Nat} (h:OwnJ B w v l):Build w B 3 1 v pcRJ l:=by
 refine ⟨l.map fun x=>[pcJ x],by simp,by simp,?_,?_⟩
 ·rw [flatten_one];exact h
 ·intro j u x hu hx w' _
  simp only [List.getElem?_map,hx,Option.map_some,Option.some.injEq] at hu
  exact hu.symm
theorem PlusJ.over {p q L:List Nat} {i c:Nat} (h:PlusJ p q i c L) (hp:Pcs p) (hq:Pcs q) (h1:p.length<i) (h2:q.length<i):c=0:=by
 have hv:=h.val
 rw [List.take_of_length_le (by omega),List.take_of_length_le (by omega)] at hv
 have a1:=lv_lt hp
 have a2:=lv_lt hq
 have a3:pB p.length≤pB (i-1):=pB_mono (by omega)
 have a4:pB q.length≤pB (i-1):=pB_mono (by omega)
 have a5:pB i=1000000000*pB (i-1):=by rw [← pB_succ];congr 1;omega
 false_or_by_contra
 have:=h.le
 have hc:c=1:=by omega
 rw [hc,a5] at hv
 omega
theorem Can.drop {l:List Nat} (h:Can l) {k:Nat} (hk:k<l.length):Can (l.drop k):=by
 refine ⟨h.1.drop k,fun x hx=>?_⟩
 rw [List.length_drop,List.getElem?_drop,show k+(l.length-k-1)=l.length-1 by omega] at hx
 exact h.2 x hx
theorem OwnJ.lit (w:World) (m:Nat):OwnJ w.heap.size (w.alloc (.cells #[.int .i64 m] 3)) (.slice (some ⟨w.heap.size,0,none⟩) 1 1) [m]:=by
 have:=World.ownsRow_lit (e:=3) (size:=1) w #[Value.int .i64 m] 1 (Nat.le_refl _) (by unfold maxLen;omega) rfl
 exact this
def mostL (xss:List (List Int)):Nat:=xss.foldl (fun m r=>max m r.length) 0
def fewP (xss:List (List Int)):Prop:=(xss.length≤4∧mostL xss≤5)∨(12≤xss.length∧xss.length≤14∧mostL xss≤2)∨(xss.length≤2∧11≤mostL xss∧mostL xss≤14)
instance (xss:List (List Int)):Decidable (fewP xss):=inferInstanceAs (Decidable (_∨_))
theorem Build.strV {w:World} {base:Nat} {e:TypeId} {v:Value} {xs:List Int} (h:Build w base e 1 v numC xs):w.ownsRow base e 1 v xs.length (xs.map fun x=>Value.string (intB x)):=by
 obtain ⟨us,h1,h2,h3,h4⟩:=h
 have:us=xs.map fun x=>[Value.string (intB x)]:=by
  apply List.ext_getElem?
  intro i
  rw [List.getElem?_map]
  by_cases hi:i<xs.length
  ·have hi2:i<us.length:=by omega
   have:=(h4 i us[i] xs[i] (by simp [hi2]) (by simp [hi])).now
   simp only [numC] at this
   simp [hi,hi2,this]
  ·rw [List.getElem?_eq_none (by omega),List.getElem?_eq_none (by omega)];rfl
 rw [this,flatten_one (fun x=>Value.string (intB x))] at h3
 exact h3
end Go.Proofs.YtjlkkofmojgipaaGreatDoor
