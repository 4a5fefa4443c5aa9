import Derived.Test.YtjlkkofmojgipaaGreatDoorPAB
import Derived.Test.YtjlkkofmojgipaaGreatDoorPAA
import Derived.WalkSmall
import Derived.IntWalk
import Derived.OwnWalk
import Derived.Lib.ConvBytes
namespace Go.Proofs.YtjlkkofmojgipaaGreatDoor
set_option linter.unusedVariables false
set_option linter.unusedSimpArgs false
def pieceJ (p:List Nat) (i:Nat):Nat:=p.getD i 0
theorem pieceJ_get {p:List Nat} {i x:Nat} (h:p[i]?=some x):pieceJ p i=x:=by
 unfold pieceJ;rw [List.getD_eq_getElem?_getD,h];rfl
theorem pieceJ_out {p:List Nat} {i:Nat} (h:p.length≤i):pieceJ p i=0:=by
 unfold pieceJ;rw [List.getD_eq_getElem?_getD,List.getElem?_eq_none h];rfl
theorem pieceJ_lt {p:List Nat} (h:Pcs p) (i:Nat):pieceJ p i<1000000000:=by
 by_cases hi:i<p.length
 ·rw [pieceJ_get (List.getElem?_eq_getElem hi)];exact h _ (List.getElem_mem hi)
 ·rw [pieceJ_out (by omega)];omega
theorem lv_take_piece (p:List Nat) (i:Nat):lv (p.take (i+1))=lv (p.take i)+pB i*pieceJ p i:=by
 by_cases hi:i<p.length
 ·have h:=List.getElem?_eq_getElem hi
  rw [lv_take_succ h,pieceJ_get h]
 ·rw [pieceJ_out (by omega),List.take_of_length_le (by omega),List.take_of_length_le (by omega)];rfl
theorem lv_snoc (l:List Nat) (x:Nat):lv (l++[x])=lv l+pB l.length*x:=by
 rw [lv_append,lv_cons,lv_nil,Nat.mul_zero,Nat.add_zero]
structure PlusJ (p q:List Nat) (i c:Nat) (L:List Nat):Prop where
 len:L.length=i
 pcs:Pcs L
 le:c≤1
 val:lv L+c*pB i=lv (p.take i)+lv (q.take i)
theorem PlusJ.start (p q:List Nat):PlusJ p q 0 0 []:=⟨rfl,Pcs.nil,by omega,by simp [lv_nil]⟩
theorem PlusJ.step {p q L:List Nat} {i c s:Nat} (h:PlusJ p q i c L) (hp:Pcs p) (hq:Pcs q) (hs:s=c+pieceJ p i+pieceJ q i):PlusJ p q (i+1) (s / 1000000000) (L++[s%1000000000]):=by
 have h1:=pieceJ_lt hp i
 have h2:=pieceJ_lt hq i
 have h3:=h.le
 refine ⟨by rw [List.length_append,h.len];rfl,h.pcs.append (Pcs.cons (by omega) Pcs.nil),by omega,?_⟩
 rw [lv_snoc,h.len,lv_take_piece,lv_take_piece,pB_succ]
 have hv:=h.val
 have e:=Nat.div_add_mod s 1000000000
 generalize s / 1000000000=d at *
 generalize s%1000000000=m at *
 subst hs
 generalize lv L=A at *
 generalize pB i=P at *
 grind
theorem PlusJ.done {p q L:List Nat} {i:Nat} (h:PlusJ p q i 0 L) (h1:p.length≤i) (h2:q.length≤i):lv L=lv p+lv q:=by
 have:=h.val
 rw [List.take_of_length_le h1,List.take_of_length_le h2,Nat.zero_mul,Nat.add_zero] at this
 exact this
structure MinusJ (p q:List Nat) (i b:Nat) (L:List Nat):Prop where
 len:L.length=i
 pcs:Pcs L
 le:b≤1
 val:lv L+lv (q.take i)=lv (p.take i)+b*pB i
theorem MinusJ.start (p q:List Nat):MinusJ p q 0 0 []:=⟨rfl,Pcs.nil,by omega,by simp [lv_nil]⟩
theorem MinusJ.step {p q L:List Nat} {i b x b':Nat} (h:MinusJ p q i b L) (hx:x<1000000000) (hb:b'≤1) (he:x+pieceJ q i+b=pieceJ p i+b'*1000000000):MinusJ p q (i+1) b' (L++[x]):=by
 refine ⟨by rw [List.length_append,h.len];rfl,h.pcs.append (Pcs.cons hx Pcs.nil),hb,?_⟩
 rw [lv_snoc,h.len,lv_take_piece,lv_take_piece,pB_succ]
 have hv:=h.val
 have h2:pB i*(x+pieceJ q i+b)=pB i*(pieceJ p i+b'*1000000000):=by rw [he]
 generalize pB i=P at *
 grind
theorem MinusJ.done {p q L:List Nat} {b:Nat} (h:MinusJ p q p.length b L) (hp:Pcs p) (hq:q.length≤p.length) (hl:lv q≤lv p):lv L=lv p-lv q∧b=0:=by
 have hv:=h.val
 rw [List.take_of_length_le (Nat.le_refl _),List.take_of_length_le hq] at hv
 have h1:=lv_lt h.pcs
 rw [h.len] at h1
 have h2:=h.le
 have hb:b=0:=by
  false_or_by_contra
  have:b=1:=by omega
  subst this
  omega
 subst hb
 omega
structure TimJ (p q:List Nat) (i:Nat) (L:List Nat):Prop where
 len:L.length=p.length+q.length+1
 pcs:Pcs L
 val:lv L=lv (p.take i)*lv q
structure TimJK (p q:List Nat) (i x k c:Nat) (L:List Nat):Prop where
 len:L.length=p.length+q.length+1
 pcs:Pcs L
 lt:c<1000000000
 val:lv L+c*pB (i+k)=lv (p.take i)*lv q+x*(lv (q.take k)*pB i)
theorem TimJ.start (p q:List Nat):TimJ p q 0 (List.replicate (p.length+q.length+1) 0) :=
 ⟨by simp,Pcs.zeros _,by rw [lv_zeros,List.take_zero,lv_nil,Nat.zero_mul]⟩
theorem TimJ.enter {p q L:List Nat} {i:Nat} (x:Nat) (h:TimJ p q i L):TimJK p q i x 0 0 L :=
 ⟨h.len,h.pcs,by omega,by rw [h.val,List.take_zero,lv_nil];simp⟩
theorem TimJK.room {p q L:List Nat} {i x k c:Nat} (h:TimJK p q i x k c L) (hp:Pcs p) (hq:Pcs q) (hx:p[i]?=some x) (hk:k<q.length∨0<c):i+k<p.length+q.length+1:=by
 have hi:=(List.getElem?_eq_some_iff.1 hx).1
 rcases hk with hk | hk
 ·omega
 ·false_or_by_contra
  rename_i hn
  have h1:=lv_lt hp
  have h2:=lv_lt hq
  have h3:=lv_take_le p (i+1)
  rw [lv_take_succ hx] at h3
  have h4:=lv_take_le q k
  have h5:lv (p.take i)*lv q+x*(lv (q.take k)*pB i)≤lv p*lv q:=by
   have h6:x*(lv (q.take k)*pB i)≤(pB i*x)*lv q:=by
    have:=Nat.mul_le_mul_left (pB i*x) h4
    have e:x*(lv (q.take k)*pB i)=pB i*x*lv (q.take k):=by grind
    omega
   have h7:=Nat.mul_le_mul_right (lv q) h3
   rw [Nat.add_mul] at h7
   omega
  have h8:lv p*lv q<pB (p.length+q.length):=by rw [pB_add];exact Nat.mul_lt_mul'' h1 h2
  have h9:pB (p.length+q.length)≤pB (i+k):=pB_mono (by omega)
  have h10:1*pB (i+k)≤c*pB (i+k):=Nat.mul_le_mul_right _ hk
  have hv:=h.val
  omega
theorem TimJK.step {p q L:List Nat} {i x k c a y c':Nat} (h:TimJK p q i x k c L) (ha:L[i+k]?=some a) (hx:x<1000000000) (hq:Pcs q) (hc:c'=c+a+x*pieceJ q k) (hy:y=c'%1000000000) :
  TimJK p q i x (k+1) (c' / 1000000000) (L.set (i+k) y):=by
 have h1:=h.lt
 have h2:=h.pcs.get ha
 have h3:=pieceJ_lt hq k
 have h4:x*pieceJ q k≤999999999*999999999:=Nat.mul_le_mul (by omega) (by omega)
 refine ⟨by rw [List.length_set];exact h.len,h.pcs.set _ _ (by omega),by omega,?_⟩
 exact times_round (P:=pB (i+k)) (P':=pB (i+k+1)) (c:=c) (x:=a) (y:=y) (ab:=x*pieceJ q k) (acc2:=x*(lv (q.take (k+1))*pB i)) (pB_succ _) h.val hc hy (lv_set y ha) (by
   rw [lv_take_piece,pB_add];grind)
theorem TimJK.leave {p q L:List Nat} {i x k:Nat} (h:TimJK p q i x k 0 L) (hk:q.length≤k) (hx:p[i]?=some x):TimJ p q (i+1) L:=by
 refine ⟨h.len,h.pcs,?_⟩
 have h2:=h.val
 rw [List.take_of_length_le hk,Nat.zero_mul,Nat.add_zero] at h2
 rw [h2,lv_take_succ hx]
 grind
structure DivJ (p q:List Nat) (i:Nat) (L:List Nat) (R:Nat):Prop where
 len:L.length=p.length
 pcs:Pcs L
 low:∀ j,j<i→L[j]?=some 0∨p.length≤j
 val:lv (p.drop i)=lv (L.drop i)*lv q+R
 lt:R<lv q
theorem DivJ.start (p q:List Nat) (hq:0<lv q):DivJ p q p.length (List.replicate p.length 0) 0 :=
 ⟨by simp,Pcs.zeros _,fun j hj=>.inl (by rw [List.getElem?_replicate,if_pos hj]),by rw [List.drop_length,List.drop_eq_nil_of_le (by simp)];simp [lv_nil],hq⟩
theorem DivJ.step {p q L:List Nat} {i R x d:Nat} (h:DivJ p q (i+1) L R) (hx:p[i]?=some x) (hp:Pcs p) (hd:d=(x+1000000000*R) / lv q) :
  DivJ p q i (L.set i d) ((x+1000000000*R)-d*lv q)∧d<1000000000∧d*lv q≤x+1000000000*R:=by
 have hi:=(List.getElem?_eq_some_iff.1 hx).1
 have hxb:=hp.get hx
 have hlt:=h.lt
 have h0:0<lv q:=by omega
 have hdb:d<1000000000:=by
  rw [hd,Nat.div_lt_iff_lt_mul h0]
  have:(R+1)*1000000000≤lv q*1000000000:=Nat.mul_le_mul_right _ hlt
  omega
 have e:=Nat.div_add_mod (x+1000000000*R) (lv q)
 have e2:=Nat.mod_lt (x+1000000000*R) h0
 rw [← hd] at e
 have e3:lv q*d=d*lv q:=Nat.mul_comm _ _
 refine ⟨⟨by rw [List.length_set];exact h.len,h.pcs.set _ _ hdb,fun j hj=>?_,?_,by omega⟩,hdb,by omega⟩
 ·rw [List.getElem?_set,if_neg (by omega)]
  exact h.low j (by omega)
 ·have hL:(L.set i d)[i]?=some d:=by rw [List.getElem?_set,if_pos rfl,if_pos (by rw [h.len];exact hi)]
  rw [lv_drop_succ hx,lv_drop_succ hL,List.drop_set_of_lt (by omega),h.val,Nat.add_mul]
  have:1000000000*lv (L.drop (i+1))*lv q=1000000000*(lv (L.drop (i+1))*lv q):=Nat.mul_assoc _ _ _
  omega
theorem DivJ.done {p q L:List Nat} {R:Nat} (h:DivJ p q 0 L R):lv L=lv p / lv q∧R=lv p%lv q:=by
 have hv:=h.val
 rw [List.drop_zero,List.drop_zero] at hv
 have hlt:=h.lt
 rw [hv,Nat.mul_comm]
 constructor
 ·rw [Nat.mul_add_div (by omega),Nat.div_eq_of_lt hlt];rfl
 ·rw [Nat.mul_add_mod,Nat.mod_eq_of_lt hlt]
theorem dig_head_ne {u:Nat} (h:0<u):(Lib.decDigits u).head?≠some 48∨(Lib.decDigits u).length=1:=by
 by_cases h1:(Lib.decDigits u).length=1
 ·exact .inr h1
 ·refine .inl fun e=>?_
  have hv:=digits_val u
  have hlen:=Lib.decDigits_length u
  cases hl:Lib.decDigits u with
  | nil=>rw [hl] at e;cases e
  | cons c r =>
   rw [hl] at e hv hlen
   simp only [List.head?_cons,Option.some.injEq] at e
   subst e
   have ha:=digits_all u
   rw [hl,List.all_cons,Bool.and_eq_true] at ha
   rw [decV_cons] at hv
   have h3:=decV_lt r (0*10+((48:UInt8).toNat-48)) ha.2
   rw [hv] at h3
   have h4:=nDigits_ge u (by omega)
   rw [← hlen,List.length_cons] at h4
   have:(0*10+((48:UInt8).toNat-48)+1)*10^r.length=10^r.length:=by
    rw [show (0*10+((48:UInt8).toNat-48)+1)=1 from rfl,Nat.one_mul]
   rw [this] at h3
   rw [Nat.add_sub_cancel] at h4
   omega
def padJ (x:Nat):List UInt8:=List.replicate (9-(Lib.decDigits x).length) 48++Lib.decDigits x
theorem decV_zeros (n a:Nat):decV 0 (List.replicate n 48)=0:=by
 induction n with
 | zero=>rfl
 | succ n ih=>rw [List.replicate_succ,decV_cons];exact ih
theorem padJ_len {x:Nat} (h:x<1000000000):(padJ x).length=9:=by
 unfold padJ
 rw [List.length_append,List.length_replicate,Lib.decDigits_length]
 have:=nDigits_le x 9 (by rw [show (10:Nat)^9=1000000000 by decide];exact h) (by omega)
 omega
theorem padJ_val (x:Nat):decV 0 (padJ x)=x:=by
 unfold padJ
 rw [decV_append,decV_zeros _ 0]
 exact digits_val x
theorem digits_pad {y x:Nat} (hy:0<y) (hx:x<1000000000):Lib.decDigits (x+1000000000*y)=Lib.decDigits y++padJ x:=by
 have hne:Lib.decDigits y≠[]:=by
  intro e
  have:=Lib.decDigits_length y
  rw [e] at this
  have:=Lib.nDigits_pos y
  simp at *;omega
 have hall:(Lib.decDigits y++padJ x).all isDig=true:=by
  rw [List.all_append,digits_all,Bool.true_and]
  unfold padJ
  rw [List.all_append,digits_all,Bool.and_true,List.all_eq_true]
  intro c hc
  have:=(List.mem_replicate.1 hc).2
  subst this
  decide
 have hval:decV 0 (Lib.decDigits y++padJ x)=x+1000000000*y:=by
  rw [decV_append,digits_val,decV_add,padJ_val,padJ_len hx]
  rw [show (10:Nat)^9=1000000000 by decide];omega
 rw [← hval]
 refine (num_unique hall (by simp [hne]) ?_).symm
 refine .inl fun e=>?_
 have h48:(Lib.decDigits y).head?=some 48:=by
  cases hl:Lib.decDigits y with
  | nil=>exact absurd hl hne
  | cons c r=>rw [hl] at e;simpa using e
 rcases dig_head_ne hy with h | h
 ·exact h h48
 ·cases hl:Lib.decDigits y with
  | nil=>exact absurd hl hne
  | cons c r =>
   rw [hl] at h h48
   have hr:r=[]:=by simpa using h
   subst hr
   simp only [List.head?_cons,Option.some.injEq] at h48
   subst h48
   have:=digits_val y
   rw [hl] at this
   revert this
   show 0=y→False
   omega
end Go.Proofs.YtjlkkofmojgipaaGreatDoor
namespace Go.Proofs.YtjlkkofmojgipaaGreatDoor
set_option linter.unusedVariables false
set_option linter.unusedSimpArgs false
open Go.RowKit
theorem infoJ:(Tryz.prog.info? 3).map (fun i=>(i.zero,i.size,i.bytes))=some (some (.int .i64 0),1,8):=by kernel_rfl
def pcJ (x:Nat):Value:=.int .i64 x
def OwnJ (B:Nat) (w:World) (v:Value) (l:List Nat):Prop:=w.ownsRow B 3 1 v l.length (l.map pcJ)
def pcRJ (_:World) (u:List Value) (x:Nat):Prop:=u=[pcJ x]
theorem pcRJ.mono:Mono pcRJ:=fun _ _ _ _ _ h=>h
abbrev PcsJ (w:World) (v:Value) (l:List Nat):Prop:=ListAt 1 pcRJ w v l
theorem PcsJ.ext {w w':World} {v:Value} {l:List Nat} (h:PcsJ w v l) (he:Ext w w'):PcsJ w' v l:=ListAt.ext pcRJ.mono h he
theorem OwnJ.at {B:Nat} {w:World} {v:Value} {l:List Nat} (h:OwnJ B w v l):PcsJ w v l:=by
 refine ⟨l.map fun x=>[pcJ x],by simp,by simp,?_,?_⟩
 ·have:=SeqAt.of_owns h
  rwa [flatten_one]
 ·intro j u x hu hx
  simp only [List.getElem?_map,hx,Option.map_some,Option.some.injEq] at hu
  exact hu.symm
theorem OwnJ.ext {B:Nat} {w w':World} {v:Value} {l:List Nat} (h:OwnJ B w v l) (he:Ext w w'):OwnJ B w' v l:=owns_ext h he
theorem OwnJ.form {B:Nat} {w:World} {v:Value} {l:List Nat} (h:OwnJ B w v l):∃ a cap,v=.slice a l.length cap∧l.length≤cap∧cap≤9223372036854775807∧(l≠[]→∃ g,a=some ⟨g,0,none⟩∧B≤g∧g<w.heap.size):=by
 rcases h.2 with ⟨rfl,hn⟩ | ⟨g,cap,cur,rfl,hb,hg,h1,h2,h3,h4⟩
 ·exact ⟨none,0,by rw [hn],by omega,by omega,fun hne=>absurd (List.length_eq_zero_iff.1 hn) hne⟩
 ·exact ⟨_,cap,rfl,h1,h2,fun _=>⟨g,rfl,hb,(Array.getElem?_eq_some_iff.1 hg).1⟩⟩
theorem OwnJ.base {B B':Nat} {w:World} {v:Value} {l:List Nat} (h:OwnJ B w v l) (hb:B'≤B):OwnJ B' w v l:=by
 refine ⟨h.1,?_⟩
 rcases h.2 with h' | ⟨g,cap,cur,e,hg,rest⟩
 ·exact .inl h'
 ·exact .inr ⟨g,cap,cur,e,Nat.le_trans hb hg,rest⟩
theorem OwnJ.nil (B:Nat) (w:World):OwnJ B w (.slice none 0 0) []:=World.ownsRow_nil w B 3 1
theorem OwnJ.get {B g n cap:Nat} {w:World} {l:List Nat} (h:OwnJ B w (.slice (some ⟨g,0,none⟩) n cap) l) {k x:Nat} (hx:l[k]?=some x) :
  w.cell? ⟨g,k,none⟩=some (.int .i64 x)∧w.frozen? ⟨g,k,none⟩=false:=by
 have hk:k<l.length:=(List.getElem?_eq_some_iff.1 hx).1
 have hn:n=l.length:=by
  rcases h.2 with ⟨e,_⟩ | ⟨g',cap',cur,e,_⟩
  ·cases e
  ·simp only [Value.slice.injEq] at e;exact e.2.1
 subst hn
 exact ⟨(World.ownsRow.cellAt h k (by simpa using hk)).trans (by simp [hx,pcJ]),World.ownsRow.frozenAt h k⟩
theorem OwnJ.set {B g n cap:Nat} {w:World} {l:List Nat} (h:OwnJ B w (.slice (some ⟨g,0,none⟩) n cap) l) (k x:Nat) :
  OwnJ B (w.setCell ⟨g,k,none⟩ (.int .i64 x)) (.slice (some ⟨g,0,none⟩) n cap) (l.set k x):=by
 have hn:n=l.length:=by
  rcases h.2 with ⟨e,_⟩ | ⟨g',cap',cur,e,_⟩
  ·cases e
  ·simp only [Value.slice.injEq] at e;exact e.2.1
 subst hn
 unfold OwnJ at h ⊢
 rw [List.map_set,List.length_set];exact (World.ownsRow.stored h k _).1
theorem OwnJ.take {B g n cap:Nat} {w:World} {l:List Nat} (h:OwnJ B w (.slice (some ⟨g,0,none⟩) n cap) l) (m:Nat) (hm:m≤l.length) :
  OwnJ B w (.slice (some ⟨g,0,none⟩) m cap) (l.take m):=by
 have hl:(l.take m).length=m:=by rw [List.length_take];omega
 refine ⟨by rw [List.length_map,Nat.mul_one],.inr ?_⟩
 rcases h.2 with ⟨e,_⟩ | ⟨g',cap',cur,e,hb,hg,h1,h2,h3,h4⟩
 ·cases e
 ·simp only [Value.slice.injEq,Option.some.injEq,Addr.mk.injEq] at e
  obtain ⟨⟨rfl,-,-⟩,rfl,rfl⟩:=e
  refine ⟨g,cap,cur,by rw [hl],hb,hg,by omega,h2,h3,?_⟩
  rw [Nat.mul_one] at h4 ⊢
  rw [List.map_take,← h4,List.take_take,hl,Nat.min_eq_left (by omega)]
theorem OwnJ.len {B g n cap:Nat} {w:World} {l:List Nat} (h:OwnJ B w (.slice (some ⟨g,0,none⟩) n cap) l):n=l.length:=by
 rcases h.2 with ⟨e,_⟩ | ⟨g',cap',cur,e,_⟩
 ·cases e
 ·simp only [Value.slice.injEq] at e;exact e.2.1
theorem PcsJ.open {w:World} {v:Value} {l:List Nat} (h:PcsJ w v l) :
  ∃ (a:Option Addr) (cap:Nat),v=.slice a l.length cap∧l.length≤cap∧cap≤9223372036854775807 ∧
   (l≠[]→∃ b off,a=some ⟨b,off,none⟩∧b<w.heap.size∧∀ (j:Nat) x,l[j]?=some x→w.cell? ⟨b,off+j,none⟩=some (.int .i64 x)):=by
 obtain ⟨a,cap,hv,h1,h2,h3,h4⟩:=ListAt.open h
 refine ⟨a,cap,hv,h1,h2,fun hx=>?_⟩
 obtain ⟨b,off,ha,hb,hc⟩:=h4 (by omega) hx
 refine ⟨b,off,ha,hb,fun j x hj=>?_⟩
 obtain ⟨u,_,hr,hcell⟩:=hc j x hj
 have:=hcell 0 (by omega)
 rw [hr] at this
 simpa [pcJ] using this
theorem OwnJ.made {B n:Nat} {w:World} {v:Value} (h:w.ownsRow B 3 1 v n (madeCells #[.int .i64 0] n).toList):OwnJ B w v (List.replicate n 0):=by
 unfold OwnJ
 rw [List.length_replicate]
 have e:(madeCells #[Value.int .i64 0] n).toList=(List.replicate n 0).map pcJ:=(toList_madeCells_one _ _).trans (by simp [pcJ])
 rwa [e] at h
theorem OwnJ.build {B:Nat} {w:World} {v:Value} {l:List Nat} (h:OwnJ B w v l):Build w B 3 1 v pcRJ l:=by
 refine ⟨l.map fun x=>[pcJ x],by simp,by simp,?_,?_⟩
 ·rw [flatten_one];exact h
 ·intro j u x hu hx w' _
  simp only [List.getElem?_map,hx,Option.map_some,Option.some.injEq] at hu
  exact hu.symm
theorem Build.ownJ {B:Nat} {w:World} {v:Value} {l:List Nat} (h:Build w B 3 1 v pcRJ l):OwnJ B w v l:=by
 obtain ⟨us,h1,h2,h3,h4⟩:=h
 have:us=l.map fun x=>[pcJ x]:=by
  apply List.ext_getElem?
  intro i
  rw [List.getElem?_map]
  by_cases hi:i<l.length
  ·have hi2:i<us.length:=by omega
   have:=(h4 i us[i] l[i] (by simp [hi2]) (by simp [hi])).now
   simp only [pcRJ] at this
   simp [hi,hi2,this]
  ·rw [List.getElem?_eq_none (by omega),List.getElem?_eq_none (by omega)];rfl
 rw [this,flatten_one] at h3
 exact h3
set_option maxRecDepth 100000 in
set_option maxHeartbeats 400000 in
theorem rTrim_any (B:Nat) (l:List Nat) (v:Value) (w:World) (h:OwnJ B w v l) (hp:Pcs l) :
  Calls Tryz.prog 179 #[v] w fun e w'=>∃ v' l',e=.returned v'∧Hid (OwnJ B w' v' l'∧Can l'∧lv l'=lv l∧l'.length≤l.length)∧∃ k,w'=w.drewN k:=by
 obtain ⟨a,cap,rfl,hl,hc,hg⟩:=h.form
 have HW:=Lib.hid h
 have HP:=Lib.hid hp
 have HG:=Lib.hid hg
 clear h hp hg
 go_enter Tryz.func179,Tryz.ntmps179
 go_wp2_with fail
 go_loopw [3] (fun t wr=>∃ m:Nat,m≤l.length∧t=.int .i64 m∧Hid (lv (l.take m)=lv l)∧∃ k,wr=w.drewN k) (fun t _=>(intOf t).toNat)
 case atStart=>exact ⟨l.length,Nat.le_refl _,rfl,by unfold Hid;rw [List.take_length],0,rfl⟩
 case round =>
  obtain ⟨m,hm,rfl,HV,k,rfl⟩:=hrel
  by_cases h0:m=0
  ·subst h0
   have HF:Hid (OwnJ B w (.slice a 0 cap) []∧Can []∧lv []=lv l∧([]:List Nat).length≤l.length):=by
    refine ⟨?_,Can.nil,HV.out,Nat.zero_le _⟩
    by_cases hn:l=[]
    ·subst hn;exact HW.out
    ·obtain ⟨g,rfl,-,-⟩:=HG.out hn
     exact HW.out.take 0 (Nat.zero_le _)
   go_wp2_with fail
   go_ret
   exact ⟨_,[],rfl,HF,k,rfl⟩
  ·have hne:l≠[]:=by rintro rfl;simp at hm;omega
   obtain ⟨g,rfl,hg1,hg2⟩:=HG.out hne
   obtain ⟨x,hx⟩:∃ x,l[m-1]?=some x:=⟨_,List.getElem?_eq_getElem (by omega)⟩
   obtain ⟨hcell,-⟩:=HW.out.get hx
   have hi0:(0:Int)≤(m:Int)-1:=by omega
   have hi1:((m:Int)-1).toNat=m-1:=by omega
   have hi2:1≤m:=by omega
   have hi3:(0:Int)<(m:Int):=by omega
   by_cases hx0:x=0
   ·subst hx0
    have HV':Hid (lv (l.take (m-1))=lv l):=by
     unfold Hid
     have:=lv_take_succ hx
     rw [show m-1+1=m by omega,Nat.mul_zero,Nat.add_zero,HV.out] at this
     exact this.symm
    clear hx h0 hne
    go_wp2_with fail
    go_roundw
    case rel=>exact ⟨m-1,by omega,by first | rfl | (congr 1;omega),HV',k,rfl⟩
    case measure=>simp [intOf];omega
   ·have HF:Hid (OwnJ B w (.slice (some ⟨g,0,none⟩) m cap) (l.take m)∧Can (l.take m)∧lv (l.take m)=lv l∧(l.take m).length≤l.length):=by
     refine ⟨HW.out.take m hm,⟨HP.out.take m,?_⟩,HV.out,by rw [List.length_take];omega⟩
     intro y hy
     rw [List.length_take,Nat.min_eq_left hm,List.getElem?_take,if_pos (by omega),hx] at hy
     cases hy;exact hx0
    have hxb:((x:Int) == 0)=false:=by rw [beq_eq_false_iff_ne];omega
    clear hx h0 hne
    go_wp2_with fail
    go_ret
    exact ⟨_,_,rfl,HF.out,k,rfl⟩
theorem bytes_getJ (s:ByteArray) (j:Nat) (h:j<s.size):s.data.toList[j]?=some s[j]:=by
 have:j<s.data.toList.length:=by rw [← Lib.size_eq];exact h
 rw [List.getElem?_eq_getElem this]
 rfl
set_option maxRecDepth 100000 in
set_option maxHeartbeats 1000000 in
theorem rSplit_any (s:ByteArray) (w:World) (hd:s.data.toList.all isDig=true) (hs:s.size≤400000) :
  Calls Tryz.prog 130 #[.string s] w fun e w'=>∃ v l,e=.returned v∧Hid (OwnJ w.heap.size w' v l∧Can l∧lv l=decV 0 s.data.toList∧l.length≤s.size)∧Ext w w':=by
 have HD:=Lib.hid hd
 have hl:s.data.toList.length=s.size:=(Lib.size_eq s).symm
 have HL:=Lib.hid hl
 have HB0:Hid (Build w w.heap.size 3 1 (.slice none 0 0) pcRJ []):=OwnJ.build (OwnJ.nil _ _)
 have HS0:Hid (Pcs []∧([]:List Nat).length=0∧lv []=decV 0 (s.data.toList.drop (s.size-9*0))):=by
  refine ⟨Pcs.nil,rfl,?_⟩
  rw [Nat.mul_zero,Nat.sub_zero,List.drop_eq_nil_of_le (by rw [HL.out];exact Nat.le_refl _)];rfl
 clear hl hd
 go_enter Tryz.func130,Tryz.ntmps130
 go_wp2_with fail
 go_loopw [3,0] (fun out t wr=>∃ (k e:Nat) (b:ByteArray) (l:List Nat),t=.string b∧b.size=e∧e≤s.size∧Hid (e=s.size-9*k)∧Hid (k≤s.size)∧Hid (b.data.toList=s.data.toList.take e)∧Ext w wr∧Hid (Build wr w.heap.size 3 1 out pcRJ l)∧Hid (Pcs l∧l.length=k∧lv l=decV 0 (s.data.toList.drop (s.size-9*k)))) (fun _ t _=>match t with | .string b=>b.size | _=>0)
 case atStart=>exact ⟨0,s.size,s,[],rfl,rfl,by omega,rfl,Nat.zero_le _,by unfold Hid;rw [← HL.out,List.take_length],by first | exact Ext.refl _ | exact Ext.drew _,HB0.out,HS0.out⟩
 case round =>
  obtain ⟨k,e,b,l,rfl,hbe,hes,HE,HKS,HBT,hEw,HB,HS⟩:=hrel
  obtain ⟨wo,rfl⟩:∃ wo:World,wo=wr:=⟨_,rfl⟩
  clear HB0 HS0
  by_cases h0:0<e
  ·have hb0:(0:Int)<(b.size:Int):=by omega
   have HEK:Hid (s.size-e=9*k):=by have:=HE.out;unfold Hid;omega
   have HSUB:Hid (b.data.toList.all isDig=true):=by unfold Hid;rw [HBT.out];exact all_sub (f:=0) HD.out e
   obtain ⟨f,hf⟩:∃ f:Nat,(e≤9∧f=0)∨(9<e∧(e:Int)-9=(f:Int)):=by
    by_cases h9:e≤9
    ·exact ⟨0,.inl ⟨h9,rfl⟩⟩
    ·exact ⟨e-9,.inr ⟨by omega,by omega⟩⟩
   have hfe:f≤e:=by omega
   have hfe9:e≤f+9:=by omega
   have HF0:Hid (f=s.size-9*(k+1)):=by have:=HE.out;unfold Hid;omega
   have HKS2:Hid (k+1≤s.size):=by have:=HE.out;unfold Hid;omega
   have HNB:Hid ((b.extract 0 f).size=f∧(b.extract 0 f).data.toList=s.data.toList.take f):=by
    have e1:(b.extract 0 f).data.toList=s.data.toList.take f:=by
     rw [Lib.extract_data,HBT.out,List.drop_zero,List.take_take,Nat.sub_zero,Nat.min_eq_left hfe]
    refine ⟨?_,e1⟩
    rw [Lib.size_eq,e1,List.length_take,HL.out];omega
   rcases hf with ⟨h9,hf⟩ | ⟨h9,hf⟩
   case' inl =>
    have q9:¬ (9:Int)<(b.size:Int):=by omega
    have HEX:Hid (ByteArray.empty=b.extract 0 f):=by unfold Hid;rw [hf];simp
   case' inr =>
    have q9:(9:Int)<(b.size:Int):=by omega
    have q8:(b.size:Int)-9=(f:Int):=by omega
    have HEX:Hid (True):=trivial
   all_goals
    go_wp2_with fail
    go_loopw [6,5] (fun j n wr=>∃ (i v:Nat),f≤i∧i≤e∧j=.int .i64 i∧n=.int .i64 v∧v≤1000000000∧Hid (v=decV 0 ((b.data.toList.take i).drop f))∧Hid (Ext wo wr)) (fun j _ _=>e-(intOf j).toNat)
    case atStart=>exact ⟨f,0,by omega,by omega,by first | rfl | (rw [hf];rfl) | go_num,rfl,by omega,by unfold Hid;rw [List.drop_eq_nil_of_le (by rw [List.length_take];omega)];rfl,by first | exact Ext.refl _ | exact Ext.drew _⟩
    case round =>
     obtain ⟨i,v,hi0,hi,rfl,rfl,hv,HV,HEi⟩:=hrel
     obtain ⟨wi,rfl⟩:∃ wi:World,wi=wr:=⟨_,rfl⟩
     by_cases hlt:i<e
     ·have hib:i<b.size:=by omega
      have HCH:=Lib.hid (bytes_getJ b i hib)
      have hdig:48≤b[i].toNat∧b[i].toNat≤57:=of_decide_eq_true (List.all_eq_true.1 HSUB.out _ (List.mem_of_getElem? HCH.out))
      obtain ⟨z,hz⟩:∃ z:Nat,b[i].toNat=z+48:=⟨b[i].toNat-48,by omega⟩
      have hz9:z≤9:=by omega
      have HV':Hid (10*v+z=decV 0 ((b.data.toList.take (i+1)).drop f)):=by
       unfold Hid
       rw [List.take_add_one,HCH.out,List.drop_append_of_le_length (by rw [List.length_take,← Lib.size_eq];omega),decV_append,← HV.out]
       show _=decV v [b[i]]
       rw [decV_cons,decV_nil,hz];omega
      have hv2:10*v+z≤1000000000:=by
       have:=slice_lt (all_sub (e:=i+1) (f:=f) HSUB.out) (by rw [List.length_drop,List.length_take];omega)
       rw [← HV'.out] at this
       omega
      have e1:(b[i].toNat:Int)=(z:Int)+48:=by rw [hz];rfl
      have e2:IntKind.u8.wrap ((z:Int)+48-48)=(z:Int):=by rw [IntKind.wrap_u8];omega
      have e3:IntKind.i64.wrap (z:Int)=(z:Int):=by rw [IntKind.wrap_i64];omega
      have hib':(i:Int)<(b.size:Int):=by omega
      clear hdig hz
      go_wp2_with fail
      go_roundw
      case rel=>exact ⟨i+1,10*v+z,by omega,by omega,by go_num,by go_num,hv2,HV'.out,by first | exact HEi.out | exact HEi.out.trans (Ext.drew _)⟩
      case measure=>simp [intOf];omega
     ·obtain rfl:e=i:=by omega
      have HBi:=Lib.hid (Build.ext HB.out HEi.out)
      have HEi2:=Lib.hid (Ext.trans hEw HEi.out)
      have hszi:w.heap.size≤wi.heap.size:=HEi2.out.size
      have HLL:Hid (l.length<1000000):=by have:=HS.out.2.1;unfold Hid;have:=HKS.out;omega
      have HNEW:Hid (Pcs (l++[v])∧(l++[v]).length=k+1∧lv (l++[v])=decV 0 (s.data.toList.drop (s.size-9*(k+1)))):=by
       have hbt:b.data.toList.take e=s.data.toList.take e:=by rw [HBT.out,List.take_take,Nat.min_self]
       have hv9:v<1000000000:=by rw [HV.out];exact slice_lt (all_sub HSUB.out _ _) (by rw [List.length_drop,List.length_take];omega)
       refine ⟨HS.out.1.append (Pcs.cons hv9 Pcs.nil),by rw [List.length_append,HS.out.2.1];rfl,?_⟩
       rw [lv_append,HS.out.2.2,HS.out.2.1,lv_cons,lv_nil,Nat.mul_zero,Nat.add_zero,HV.out,hbt,← HE.out]
       have:=cut_round (l:=s.data.toList) (e:=e) (k:=k) (by rw [HL.out];exact hes) (by rw [HL.out];exact HEK.out) _ hfe rfl
       rw [this,← HF0.out]
      clear hlt
      have hib':¬ (e:Int)<(b.size:Int):=by omega
      go_wp2_with (at_builtin;go_must (refine wpList_append_build _ rfl _ _ 26 rfl w.heap.size 3 (.int .i64 0) 1 8 Tryz.underlying26 infoJ rfl (by decide) u3 pcRJ l v #[.int .i64 v] 3 rfl HBi.out rfl rfl ?_ (fun _ _=>rfl) HLL.out (by decide) hszi ?_))
      all_goals first | (simp [Value.oneCell'];done) | skip
      intro v' w5 hB5 hg5 hb5 hs5 _
      have HB5:=Lib.hid hB5
      have HX5:=Lib.hid (Below.trans HEi2.out hb5)
      clear hB5 hg5 hb5
      go_wp2_with fail
      go_roundw
      case rel=>exact ⟨k+1,f,b.extract 0 f,l++[v],by first | rfl | (rw [← HEX.out]),HNB.out.1,by omega,HF0.out,HKS2.out,HNB.out.2,HX5.out,HB5.out,HNEW.out⟩
      case measure =>
       first
        | (show (b.extract 0 f).size<b.size;rw [HNB.out.1];omega)
        | (show ByteArray.empty.size<b.size;rw [HEX.out,HNB.out.1];omega)
  ·have hb0:¬ (0:Int)<(b.size:Int):=by omega
   have HF:Hid (lv l=decV 0 s.data.toList):=by
    have:=HE.out
    unfold Hid
    rw [HS.out.2.2,show s.size-9*k=0 by omega,List.drop_zero]
   have HW:Hid (OwnJ w.heap.size wo u3 l):=HB.out.ownJ
   have HT:=Lib.hid (rTrim_any w.heap.size l u3 wo HW.out HS.out.1)
   go_wp2_with fail
   refine HT.out.mono ?_
   rintro e' w' ⟨v',l',rfl,hr,kk,rfl⟩
   have HR:=Lib.hid hr
   clear hr HT
   go_wp2_with fail
   go_ret
   refine ⟨v',l',rfl,⟨HR.out.out.1,HR.out.out.2.1,HR.out.out.2.2.1.trans HF.out,?_⟩,Ext.draws hEw _⟩
   have:=HR.out.out.2.2.2
   have:=HS.out.2.1
   have:=HKS.out
   omega
end Go.Proofs.YtjlkkofmojgipaaGreatDoor
