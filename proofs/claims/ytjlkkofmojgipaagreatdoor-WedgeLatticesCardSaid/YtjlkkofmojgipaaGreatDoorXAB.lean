import Derived.Test.YtjlkkofmojgipaaGreatDoorXAA
import Derived.Lib.AtoiAllCases
import Derived.Lib.ItoaNum
import Derived.Lib.ItoaMem
import Derived.Laws.Cover1
import Derived.Lib.Strings
set_option linter.unusedVariables false
set_option linter.unusedSimpArgs false
namespace Go.Proofs.YtjlkkofmojgipaaGreatDoor
open Go.RowKit
def cI (c:UInt8):Bool:=decide (48<=c.toNat/\c.toNat<=57)
def jt (l:List UInt8):List UInt8:=match l with
 | 45::r=>r
 | l=>l
def kB (l:List UInt8):Bool:=(jt l).all cI && (l == [48] || ((jt l) != [] && (jt l).head? != some 48))
def ak (a:Nat) (l:List UInt8):Nat:=l.foldl (fun a c=>a*10+(c.toNat-48)) a
def iM (l:List UInt8):Int:=if l.head?=some 45 then -(ak 0 l.tail:Int) else (ak 0 l:Int)
theorem D7_ (r:List UInt8):jt (45::r)=r:=rfl
theorem D8_ {c:UInt8} {r:List UInt8} (h:c≠45):jt (c::r)=c::r:=by
 unfold jt
 split
 ·rename_i heq;simp only [List.cons.injEq] at heq;exact absurd heq.1 h
 ·rfl
theorem P7_ (r:List UInt8):iM (45::r)=-(ak 0 r:Int):=by unfold iM;rw [if_pos (by rfl)];rfl
theorem V3_ {c:UInt8} {r:List UInt8} (h:c≠45):iM (c::r)=(ak 0 (c::r):Int):=by
 unfold iM;rw [if_neg (by simp [h])]
theorem jN (a:Nat):ak a []=a:=rfl
theorem fB (a:Nat) (c:UInt8) (r:List UInt8):ak a (c::r)=ak (a*10+(c.toNat-48)) r:=by unfold ak;rw [List.foldl_cons]
theorem jk (l r:List UInt8) (a:Nat):ak a (l++r)=ak (ak a l) r:=by
 unfold ak;rw [List.foldl_append]
theorem Z1f (l:List UInt8):∀ a:Nat,a*10^l.length<=ak a l:=by
 induction l with
 | nil=>intro a;rw [List.length_nil,Nat.pow_zero,Nat.mul_one];exact oJ _
 | cons c r ih =>
  intro a;have h1:=ih (a*10+(c.toNat-48));have h2:a*10^(c::r).length=(a*10)*10^r.length:=by
   rw [List.length_cons,Nat.pow_succ,Nat.mul_comm (10^r.length) 10,Nat.mul_assoc]
  have h3:(a*10)*10^r.length<=(a*10+(c.toNat-48))*10^r.length:=Nat.mul_le_mul_right _ (by omega);rw [h2,fB];exact oI h3 h1
theorem nA (l:List UInt8):∀ a:Nat,l.all cI=true->ak a l<(a+1)*10^l.length:=by
 induction l with
 | nil=>intro a _;rw [List.length_nil,Nat.pow_zero,Nat.mul_one];exact Nat.lt_succ_self _
 | cons c r ih =>
  intro a h;rw [List.all_cons,Bool.and_eq_true] at h;have hc:48<=c.toNat/\c.toNat<=57:=of_decide_eq_true h.1;have h1:=ih (a*10+(c.toNat-48)) h.2;have h2:(a+1)*10^(c::r).length=((a+1)*10)*10^r.length:=by
   rw [List.length_cons,Nat.pow_succ,Nat.mul_comm (10^r.length) 10,Nat.mul_assoc]
  have h3:(a*10+(c.toNat-48)+1)*10^r.length<=((a+1)*10)*10^r.length:=Nat.mul_le_mul_right _ (by omega);rw [h2,fB];exact oH h1 h3
theorem t7_ (l:List UInt8) (a:Nat):a<=ak a l:=by
 have:=Z1f l a;have h1:1<=10^l.length:=Nat.one_le_pow _ _ (by omega);exact oI (Nat.le_mul_of_pos_right _ h1) this
theorem nU (l:List UInt8):∀ a:Nat,l.all cI=true->ak a l<18446744073709551616->Lib.parseUint10 a l=.ok (ak a l):=by
 induction l with
 | nil=>intro a _ _;rw [jN];rfl
 | cons c r ih =>
  intro a h hv;rw [List.all_cons,Bool.and_eq_true] at h;have hc:48<=c.toNat/\c.toNat<=57:=of_decide_eq_true h.1;have hs:=t7_ r (a*10+(c.toNat-48));have sG:ak (a*10+(c.toNat-48)) r<18446744073709551616:=by rw [fB] at hv;exact hv
  have h1:¬ 1844674407370955162<=a:=by omega
  have h2:¬ 18446744073709551616<=a*10+(c.toNat-48):=by omega
  rw [Lib.parseUint10,if_pos hc,if_neg h1,if_neg h2,fB];exact ih _ h.2 sG
theorem Y6_ (l:List UInt8):∀ a:Nat,l.all cI=true->a<18446744073709551616->¬ ak a l<18446744073709551616->Lib.parseUint10 a l=.range:=by
 induction l with
 | nil=>intro a _ ha hv;rw [jN] at hv;exact absurd ha hv
 | cons c r ih =>
  intro a h ha hv;rw [List.all_cons,Bool.and_eq_true] at h;have hc:48<=c.toNat/\c.toNat<=57:=of_decide_eq_true h.1;have sG:¬ ak (a*10+(c.toNat-48)) r<18446744073709551616:=by rw [fB] at hv;exact hv
  rw [Lib.parseUint10,if_pos hc];by_cases h1:1844674407370955162<=a
  ·rw [if_pos h1]
  ·rw [if_neg h1];by_cases h2:18446744073709551616<=a*10+(c.toNat-48)
   ·rw [if_pos h2]
   ·rw [if_neg h2];exact ih _ h.2 (by omega) sG
theorem O5_ {l:List UInt8} (h:kB l=true):(∃ r,l=45::r/\r≠[]/\r.all cI=true/\r.head?≠some 48)\/(∃ c r,l=c::r/\c≠45/\c≠43/\(c::r).all cI=true/\(l=[48]\/c≠48)):=by
 unfold kB at h;rw [Bool.and_eq_true,Bool.or_eq_true] at h;obtain ⟨h1,h2⟩:=h;cases l with
 | nil=>simp [jt] at h2
 | cons c r =>
  by_cases hc:c=45
  ·subst hc;refine .inl ⟨r,rfl,?_,h1,?_⟩
   ·rintro rfl;rcases h2 with h2 | h2
    ·simp at h2
    ·simp [jt] at h2
   ·rcases h2 with h2 | h2
    ·simp at h2
    ·simp only [D7_,Bool.and_eq_true,bne_iff_ne,ne_eq] at h2;exact h2.2
  ·rw [D8_ hc] at h1 h2;refine .inr ⟨c,r,rfl,hc,?_,h1,?_⟩
   ·rintro rfl;simp only [List.all_cons,Bool.and_eq_true] at h1;exact absurd h1.1 (by decide)
   ·rcases h2 with h2 | h2
    ·exact .inl (by simpa using h2)
    ·simp only [List.head?_cons,Bool.and_eq_true,bne_iff_ne,ne_eq,Option.some.injEq] at h2;exact .inr h2.2
theorem T3_ {l:List UInt8} (h:kB l=true) (hv:-9223372036854775808<=iM l/\iM l<=9223372036854775807):Lib.atoiAll l=.ok (iM l):=by
 rcases O5_ h with ⟨r,rfl,hne,hd,-⟩ | ⟨c,r,rfl,DY,G7,hd,-⟩
 ·rw [P7_] at hv |-;have h1:¬ 9223372036854775808<ak 0 r:=by omega
  rw [Lib.atoiAll_minus];unfold Lib.parseMag;rw [if_neg hne,nU r 0 hd (by omega)];show (if 9223372036854775808<ak 0 r then _ else _)=_;rw [if_neg h1]
 ·rw [V3_ DY] at hv |-;have h1:¬ 9223372036854775808<=ak 0 (c::r):=by omega
  rw [Lib.atoiAll_plain c r (fun e=>G7 (UInt8.toNat_inj.1 e)) (fun e=>DY (UInt8.toNat_inj.1 e))];unfold Lib.parseMag;rw [if_neg (List.cons_ne_nil _ _),nU _ 0 hd (by omega)];show (if 9223372036854775808<=ak 0 (c::r) then _ else _)=_;rw [if_neg h1]
theorem N8_ {l:List UInt8} (h:kB l=true) (hv:¬ (-9223372036854775808<=iM l/\iM l<=9223372036854775807)):Lib.atoiAll l=.range:=by
 rcases O5_ h with ⟨r,rfl,hne,hd,-⟩ | ⟨c,r,rfl,DY,G7,hd,-⟩
 ·rw [P7_] at hv;have h1:9223372036854775808<ak 0 r:=by omega
  rw [Lib.atoiAll_minus];unfold Lib.parseMag;rw [if_neg hne];by_cases hb:ak 0 r<18446744073709551616
  ·rw [nU r 0 hd hb];show (if 9223372036854775808<ak 0 r then _ else _)=_;rw [if_pos h1]
  ·rw [Y6_ r 0 hd (by omega) hb];rfl
 ·rw [V3_ DY] at hv;have h1:9223372036854775808<=ak 0 (c::r):=by omega
  rw [Lib.atoiAll_plain c r (fun e=>G7 (UInt8.toNat_inj.1 e)) (fun e=>DY (UInt8.toNat_inj.1 e))];unfold Lib.parseMag;rw [if_neg (List.cons_ne_nil _ _)];by_cases hb:ak 0 (c::r)<18446744073709551616
  ·rw [nU _ 0 hd hb];show (if 9223372036854775808<=ak 0 (c::r) then _ else _)=_;rw [if_pos h1]
  ·rw [Y6_ _ 0 hd (by omega) hb];rfl
theorem my:∀ (n u:Nat),u<n->(Lib.decDigits u).all cI=true/\ak 0 (Lib.decDigits u)=u/\Lib.decDigits u≠[]/\((Lib.decDigits u).head?=some 48->u=0):=by
 have one:∀ i,i<10->cI (UInt8.ofNat (48+i))=true/\(UInt8.ofNat (48+i)).toNat=48+i:=by
  intro i hi;have h:(UInt8.ofNat (48+i)).toNat=48+i:=by
   rw [UInt8.toNat_ofNat'];omega
  refine ⟨?_,h⟩;unfold cI;rw [h];exact oS (by omega)
 intro n
 induction n with
 | zero=>intro u h;omega
 | succ n ih =>
  intro u hu;by_cases h10:u<10
  ·rw [Lib.decDigits_one h10];obtain ⟨h1,h2⟩:=one u h10;refine ⟨by rw [List.all_cons,h1];rfl,by rw [fB,jN,h2];omega,by simp,fun h=>?_⟩;simp only [List.head?_cons,Option.some.injEq] at h;rw [h] at h2;have:(48:UInt8).toNat=48:=rfl;omega
  ·obtain ⟨k1,k2,k3,k4⟩:=ih (u / 10) (by omega);obtain ⟨h1,h2⟩:=one (u%10) (Nat.mod_lt _ (by omega));have e:Lib.decDigits u=Lib.decDigits (u / 10)++[UInt8.ofNat (48+u%10)]:=by
    rw [Lib.decDigits,dif_neg h10]
   rw [e];refine ⟨by rw [List.all_append,k1,List.all_cons,h1];rfl,?_,by simp,fun h=>?_⟩
   ·rw [jk,k2];rw [fB,jN,h2];omega
   ·obtain ⟨c,t,ht⟩:=List.exists_cons_of_ne_nil k3;rw [ht] at h k4;have:=k4 (by simpa using h);omega
theorem lF (x:Int):kB (Lib.itoa x)=true/\iM (Lib.itoa x)=x/\32∉Lib.itoa x/\Lib.itoa x≠[]:=by
 have nospace:∀ l:List UInt8,l.all cI=true->32∉l:=by
  intro l h hm;have:=List.all_eq_true.1 h 32 hm;exact absurd this (by decide)
 unfold Lib.itoa
 split
 ·obtain ⟨h1,h2,h3,h4⟩:=my _ x.natAbs (Nat.lt_succ_self _);refine ⟨?_,by rw [P7_,h2];omega,?_,by simp⟩
  ·unfold kB;rw [D7_,h1];have e1:(Lib.decDigits x.natAbs != [])=true:=bne_iff_ne.2 h3;have e2:((Lib.decDigits x.natAbs).head? != some 48)=true:=bne_iff_ne.2 (fun h=>by have:=h4 h;omega);rw [e1,e2];simp
  ·simp only [List.mem_cons,not_or];exact ⟨by decide,nospace _ h1⟩
 ·obtain ⟨h1,h2,h3,h4⟩:=my _ x.toNat (Nat.lt_succ_self _);obtain ⟨c,t,ht⟩:=List.exists_cons_of_ne_nil h3;have hc:c≠45:=by
   rintro rfl;rw [ht] at h1;simp only [List.all_cons,Bool.and_eq_true] at h1;exact absurd h1.1 (by decide)
  refine ⟨?_,?_,nospace _ h1,h3⟩
  ·unfold kB;have e1:(Lib.decDigits x.toNat != [])=true:=bne_iff_ne.2 h3;have hm:jt (Lib.decDigits x.toNat)=Lib.decDigits x.toNat:=by rw [ht,D8_ hc]
   rw [hm,h1,e1,Bool.true_and,Bool.or_eq_true,Bool.true_and];by_cases h0:x.toNat=0
   ·left;rw [h0,Lib.decDigits_one (by omega)];rfl
   ·right;exact bne_iff_ne.2 (fun h=>h0 (h4 h))
  ·have:iM (Lib.decDigits x.toNat)=ak 0 (Lib.decDigits x.toNat):=by rw [ht,V3_ hc]
   rw [this,h2];omega
theorem M4_ (l:List UInt8):∀ a:Nat,ak a l=a*10^l.length+ak 0 l:=by
 induction l with
 | nil=>intro a;rw [jN,jN,List.length_nil,Nat.pow_zero,Nat.mul_one,Nat.add_zero]
 | cons c r ih =>
  intro a;rw [fB,fB,ih (a*10+(c.toNat-48)),ih (0*10+(c.toNat-48)),List.length_cons,Nat.pow_succ,Nat.add_mul,Nat.zero_mul,Nat.zero_add,Nat.mul_comm (10^r.length) 10,<- Nat.mul_assoc,Nat.add_assoc]
theorem U6_:∀ (l r:List UInt8),l.all cI=true->r.all cI=true->l.length=r.length->(Op.bytesLess l r=decide (ak 0 l<ak 0 r))/\(l=r↔ak 0 l=ak 0 r)
 | [],[],_,_,_=>by
  constructor
  ·rw [jN];simp [Op.bytesLess]
  ·simp
 | c::l,[],_,_,h=>by simp at h
 | [],d::r,_,_,h=>by simp at h
 | c::l,d::r,hl,hr,h=>by
  rw [List.all_cons,Bool.and_eq_true] at hl hr;have hc:48<=c.toNat/\c.toNat<=57:=of_decide_eq_true hl.1;have hd:48<=d.toNat/\d.toNat<=57:=of_decide_eq_true hr.1;have hlen:l.length=r.length:=by simpa using h
  obtain ⟨Ia,IZ⟩:=U6_ l r hl.2 hr.2 hlen;have b1:=nA l 0 hl.2;have b2:=nA r 0 hr.2;rw [hlen] at b1;rw [fB,fB,M4_ l,M4_ r,hlen];obtain ⟨P,hP⟩:∃ P,P=10^r.length:=⟨_,rfl⟩;obtain ⟨x,hx⟩:∃ x,x=ak 0 l:=⟨_,rfl⟩;obtain ⟨y,hy⟩:∃ y,y=ak 0 r:=⟨_,rfl⟩;rw [<- hP,<- hx] at b1;rw [<- hP,<- hy] at b2;rw [<- hx,<- hy] at Ia IZ;rw [<- hP,<- hx,<- hy,Nat.zero_mul,Nat.zero_add,Nat.zero_add];rw [Nat.zero_add,Nat.one_mul] at b1 b2;clear hP hx hy;rcases Nat.lt_trichotomy c.toNat d.toNat with sv | sv | sv
  ·have e:(c.toNat-48+1)*P<=(d.toNat-48)*P:=Nat.mul_le_mul_right _ (by omega);rw [Nat.succ_mul] at e;have hlt:(c.toNat-48)*P+x<(d.toNat-48)*P+y:=by omega
   constructor
   ·rw [oS hlt];have:c<d:=UInt8.lt_iff_toNat_lt.2 sv;simp [Op.bytesLess,this]
   ·constructor
    ·intro he;simp only [List.cons.injEq] at he;rw [he.1] at sv;omega
    ·intro he;omega
  ·have GO:c=d:=UInt8.toNat_inj.1 sv;subst GO;constructor
   ·have e:((c.toNat-48)*P+x<(c.toNat-48)*P+y)↔x<y:=by omega
    rw [show decide ((c.toNat-48)*P+x<(c.toNat-48)*P+y)=decide (x<y) by rw [decide_eq_decide];exact e,<- Ia];simp [Op.bytesLess]
   ·simp only [List.cons.injEq,true_and];rw [IZ];omega
  ·have e:(d.toNat-48+1)*P<=(c.toNat-48)*P:=Nat.mul_le_mul_right _ (by omega);rw [Nat.succ_mul] at e;have hlt:¬ (c.toNat-48)*P+x<(d.toNat-48)*P+y:=by omega
   constructor
   ·rw [oR hlt];have h1:¬ c<d:=fun h=>by have:=UInt8.lt_iff_toNat_lt.1 h;omega
    have h2:d<c:=UInt8.lt_iff_toNat_lt.2 sv;have h3:(c == d)=false:=beq_false_of_ne (fun e=>by rw [e] at sv;omega);simp [Op.bytesLess,h1,h3]
   ·constructor
    ·intro he;simp only [List.cons.injEq] at he;rw [he.1] at sv;omega
    ·intro he;omega
def aE (u:Nat):ByteArray:=⟨(Lib.decDigits u).toArray⟩
def aD (n:Int):ByteArray:=⟨(Lib.itoa n).toArray⟩
theorem ep (u:Nat):(aE u).data.toList=Lib.decDigits u:=by unfold aE;simp
theorem S2_ (n:Int):(aD n).data.toList=Lib.itoa n:=by unfold aD;simp
theorem jV (u:Nat):(aE u).toList=Lib.decDigits u:=by rw [Lib.toList_data,ep]
theorem J3_ (n:Int):(aD n).toList=Lib.itoa n:=by rw [Lib.toList_data,S2_]
theorem dz (u:Nat):(aE u).size=Lib.nDigits u:=by rw [Lib.size_eq,ep,Lib.decDigits_length]
theorem dC (n:Int) (h:0<=n):aD n=aE n.toNat:=by unfold aD aE Lib.itoa;rw [if_neg (by omega)]
theorem lC (n:Int) (h:n<0):(aD n).data.toList=45::(aE n.natAbs).data.toList:=by rw [S2_,ep];unfold Lib.itoa;rw [if_pos h]
theorem gP (u:Nat):(Lib.decDigits u).all cI=true:=(my _ u (Nat.lt_succ_self _)).1
theorem fx (u:Nat):ak 0 (Lib.decDigits u)=u:=(my _ u (Nat.lt_succ_self _)).2.1
theorem a8_ {u v:Nat} (h:Lib.decDigits u=Lib.decDigits v):u=v:=by rw [<- fx u,<- fx v,h]
theorem T6_ (u v:Nat):(Lib.decDigits u == Lib.decDigits v)=decide (u=v):=by
 rw [Bool.eq_iff_iff,beq_iff_eq,decide_eq_true_iff];exact ⟨a8_,fun h=>by rw [h]⟩
theorem Z3L {x y:Int} (h:Lib.itoa x=Lib.itoa y):x=y:=by rw [<- (lF x).2.1,<- (lF y).2.1,h]
theorem Z1R (x y:Int):(Lib.itoa x == Lib.itoa y)=decide (x=y):=by
 rw [Bool.eq_iff_iff,beq_iff_eq,decide_eq_true_iff];exact ⟨Z3L,fun h=>by rw [h]⟩
theorem P4_ (u:Nat):1<=u->10^(Lib.nDigits u-1)<=u:=by
 induction u using Nat.strongRecOn with
 | ind u ih =>
  intro h1;by_cases h:u<10
  ·rw [Lib.nDigits_small h];exact h1
  ·rw [Lib.nDigits_big h];have h2:=ih (u / 10) (by omega) (by omega);have h3:=Lib.nDigits_pos (u / 10);obtain ⟨k,hk⟩:∃ k,Lib.nDigits (u / 10)=k+1:=⟨Lib.nDigits (u / 10)-1,by omega⟩;rw [hk] at h2 |-;simp only [Nat.add_sub_cancel] at h2 |-;rw [Nat.pow_succ];omega
theorem P5_ {u v:Nat} (h:Lib.nDigits u<Lib.nDigits v):u<v:=by
 have h1:=Lib.lt_pow_nDigits u;by_cases h10:v<10
 ·rw [Lib.nDigits_small h10] at h;have:=Lib.nDigits_pos u;omega
 ·have h2:10^(Lib.nDigits v-1)<=v:=P4_ v (by omega);have h3:10^Lib.nDigits u<=10^(Lib.nDigits v-1):=Nat.pow_le_pow_right (by omega) (by omega);exact oH (oH h1 h3) h2
theorem e4_ (u v:Nat) (h:Lib.nDigits u=Lib.nDigits v):Op.bytesLess (Lib.decDigits u) (Lib.decDigits v)=decide (u<v):=by
 have:=(U6_ (Lib.decDigits u) (Lib.decDigits v) (gP u) (gP v) (by rw [Lib.decDigits_length,Lib.decDigits_length,h])).1;rw [fx,fx] at this;exact this
def pB:Nat->Nat
 | 0=>1
 | k+1=>1000000000*pB k
theorem mG:pB 0=1:=rfl
theorem er (k:Nat):pB (k+1)=1000000000*pB k:=rfl
theorem kS (k:Nat):0<pB k:=by
 induction k with
 | zero=>exact Nat.one_pos
 | succ k ih=>rw [er];omega
theorem lL (a b:Nat):pB (a+b)=pB a*pB b:=by
 induction a with
 | zero=>rw [Nat.zero_add,mG,Nat.one_mul]
 | succ a ih=>rw [Nat.succ_add,er,er,ih,Nat.mul_assoc]
theorem x0_ {a b:Nat} (h:a<=b):pB a<=pB b:=by
 obtain ⟨c,rfl⟩:=Nat.exists_eq_add_of_le h;rw [lL];exact Nat.le_mul_of_pos_right _ (kS c)
def lv:List Nat->Nat
 | []=>0
 | x::r=>x+1000000000*lv r
theorem dL:lv []=0:=rfl
theorem eX (x:Nat) (r:List Nat):lv (x::r)=x+1000000000*lv r:=rfl
theorem iv (a b:List Nat):lv (a++b)=lv a+pB a.length*lv b:=by
 induction a with
 | nil=>rw [List.nil_append,dL,List.length_nil,mG,Nat.one_mul,Nat.zero_add]
 | cons x r ih=>rw [List.cons_append,eX,eX,ih,List.length_cons,er,Nat.mul_add,Nat.mul_assoc,Nat.add_assoc]
def aS (l:List Nat):Prop:=∀ x∈l,x<1000000000
theorem aS.nil:aS []:=fun x h=>by simp at h
theorem aS.cons {x:Nat} {l:List Nat} (hx:x<1000000000) (h:aS l):aS (x::l):=fun y hy=>by
 rcases List.mem_cons.1 hy with rfl | hy
 ·exact hx
 ·exact h y hy
theorem aS.tail {x:Nat} {l:List Nat} (h:aS (x::l)):aS l:=fun y hy=>h y (List.mem_cons_of_mem _ hy)
theorem aS.append {a b:List Nat} (h:aS a) (k:aS b):aS (a++b):=fun y hy=>by
 rcases List.mem_append.1 hy with hy | hy
 ·exact h y hy
 ·exact k y hy
theorem aS.take {l:List Nat} (h:aS l) (k:Nat):aS (l.take k):=fun y hy=>h y (List.mem_of_mem_take hy)
theorem aS.drop {l:List Nat} (h:aS l) (k:Nat):aS (l.drop k):=fun y hy=>h y (List.mem_of_mem_drop hy)
theorem aS.set {l:List Nat} (h:aS l) (k x:Nat) (hx:x<1000000000):aS (l.set k x):=fun y hy=>by
 rcases List.mem_or_eq_of_mem_set hy with hy | rfl
 ·exact h y hy
 ·exact hx
theorem aS.zeros (n:Nat):aS (List.replicate n 0):=fun y hy=>by
 have:=(List.mem_replicate.1 hy).2;omega
theorem aS.get {l:List Nat} (h:aS l) {k x:Nat} (hx:l[k]?=some x):x<1000000000:=h x (oD hx)
theorem eY {l:List Nat} (h:aS l):lv l<pB l.length:=by
 induction l with
 | nil=>exact Nat.one_pos
 | cons x r ih =>
  have h1:=h x (by simp);have h2:=ih h.tail;rw [eX,List.length_cons,er];omega
theorem y3_ (n:Nat):lv (List.replicate n 0)=0:=by
 induction n with
 | zero=>rfl
 | succ n ih=>rw [List.replicate_succ,eX,ih]
theorem gG (l:List Nat) (k:Nat) (h:k<=l.length):lv l=lv (l.take k)+pB k*lv (l.drop k):=by
 have:=iv (l.take k) (l.drop k);rw [List.take_append_drop,oF,Nat.min_eq_left h] at this;exact this
theorem jT {l:List Nat} {k x:Nat} (h:l[k]?=some x):lv (l.take (k+1))=lv (l.take k)+pB k*x:=by
 have hk:=(n_.1 h).1;rw [oG,h,iv,oF,Nat.min_eq_left (by omega)];show _+pB k*(x+1000000000*0)=_;rw [Nat.mul_zero,Nat.add_zero]
theorem ek {l:List Nat} {k x:Nat} (h:l[k]?=some x):lv (l.drop k)=x+1000000000*lv (l.drop (k+1)):=by
 have hk:=(n_.1 h).1;have e:l[k]=x:=(n_.1 h).2;rw [List.drop_eq_getElem_cons hk,eX,e]
theorem nL {l:List Nat} {k a:Nat} (b:Nat) (h:l[k]?=some a):lv (l.set k b)+pB k*a=lv l+pB k*b:=by
 induction l generalizing k with
 | nil=>simp at h
 | cons x r ih =>
  cases k with
  | zero =>
   simp at h;subst h;rw [List.set_cons_zero,eX,eX,mG];omega
  | succ k =>
   have:=ih (k:=k) (by simpa using h);rw [List.set_cons_succ,eX,eX,er,Nat.mul_assoc,Nat.mul_assoc];omega
theorem D6_ (l:List Nat) (k:Nat):lv (l.take k)<=lv l:=by
 by_cases h:k<=l.length
 ·rw [gG l k h];exact Nat.le_add_right _ _
 ·rw [List.take_of_length_le (by omega)];exact oJ _
def ai (l:List Nat):Prop:=aS l/\(∀ x,l[l.length-1]?=some x->x≠0)
theorem ai.nil:ai []:=⟨aS.nil,fun x h=>by simp at h⟩
theorem ai.ge {l:List Nat} (h:ai l) (hl:l≠[]):pB (l.length-1)<=lv l:=by
 have hp:0<l.length:=List.length_pos_iff.2 hl;obtain ⟨x,hx⟩:∃ x,l[l.length-1]?=some x:=⟨_,n9 (by omega)⟩;have h0:=h.2 x hx;rw [gG l (l.length-1) (by omega),ek hx];have h1:pB (l.length-1)*1<=pB (l.length-1)*(x+1000000000*lv (l.drop (l.length-1+1))):=Nat.mul_le_mul_left _ (by omega);omega
theorem ai.zero {l:List Nat} (h:ai l):lv l=0↔l=[]:=by
 constructor
 ·intro h0
  false_or_by_contra
  rename_i hn;have h1:=h.ge hn;have h2:=kS (l.length-1);omega
 ·rintro rfl;rfl
theorem ai.lt_of_length {a b:List Nat} (ha:aS a) (hb:ai b) (h:a.length<b.length):lv a<lv b:=by
 have h1:=eY ha;have h2:=hb.ge (by rintro rfl;simp at h);have h3:pB a.length<=pB (b.length-1):=x0_ (by omega);omega
theorem ai.length_le {a b:List Nat} (ha:ai a) (hb:ai b) (h:lv a<=lv b):a.length<=b.length:=by
 false_or_by_contra
 rename_i hn;have:=ai.lt_of_length hb.1 ha (by omega);omega
theorem e6_ {a b:List Nat} {k x y:Nat} (ha:aS a) (hb:aS b) (hx:a[k]?=some x) (hy:b[k]?=some y) (he:a.drop (k+1)=b.drop (k+1)) (h:x<y):lv a<lv b:=by
 have ka:=(n_.1 hx).1;have kb:=(n_.1 hy).1;rw [gG a k (by omega),gG b k (by omega),ek hx,ek hy,he];have h1:=eY (ha.take k);rw [oF,Nat.min_eq_left (by omega)] at h1;have h2:pB k*(x+1000000000*lv (b.drop (k+1))+1)<=pB k*(y+1000000000*lv (b.drop (k+1))):=Nat.mul_le_mul_left _ (by omega);rw [Nat.mul_add,Nat.mul_one] at h2;omega
theorem Z0P {p q P n c b x y qk P':Nat} {old:Nat}
  (hk:P'=1000000000*P) (inv:p+n*q=old+(c+b)*P)
  (c' b' p2 q2:Nat) (hc:c'=c+n*qk) (hy:y+c'%1000000000+b=x+b'*1000000000)
  (hp:p2+P*x=p+P*y) (hq:n*q2=n*q+P*(n*qk)) :
  p2+n*q2=old+(c' / 1000000000+b')*P':=by
 have e:=Nat.div_add_mod c' 1000000000;generalize c' / 1000000000=d at *
 generalize c'%1000000000=m at *
 subst hk;have h1:P*(y+m+b)=P*(x+b'*1000000000):=by rw [hy]
 have h2:P*(1000000000*d+m)=P*(c+n*qk):=by rw [e,hc]
 grind
theorem T0_ {p P P' c x y ab old acc acc2 p2 c':Nat} (hP:P'=1000000000*P) (inv:p+c*P=old+acc) (hc:c'=c+x+ab) (hy:y=c'%1000000000)
  (hp:p2+P*x=p+P*y) (yk:acc2=acc+P*ab):p2+(c' / 1000000000)*P'=old+acc2:=by
 have e:=Nat.div_add_mod c' 1000000000;generalize c' / 1000000000=d at *
 generalize c'%1000000000=m at *
 subst hP hy yk;have h2:P*(1000000000*d+y)=P*(c+x+ab):=by rw [e,hc]
 grind
theorem i6_ {D D' Q n rest x:Nat} (inv:D'=n*Q+rest) (hD:D=x+1000000000*D') (hn:0<n) :
  D=n*((rest*1000000000+x) / n+1000000000*Q)+(rest*1000000000+x)%n:=by
 have e:=Nat.div_add_mod (rest*1000000000+x) n;generalize (rest*1000000000+x) / n=d at *
 generalize (rest*1000000000+x)%n=m at *
 subst hD inv;grind
theorem c5_ {n rest x:Nat} (hr:rest<n) (hx:x<1000000000):(rest*1000000000+x) / n<1000000000:=by
 rw [Nat.div_lt_iff_lt_mul (by omega)];have:(rest+1)*1000000000<=n*1000000000:=Nat.mul_le_mul_right _ hr;omega
section
variable {W bv L t s bl high a2 wl:Nat}
theorem Z3C {g:Nat} (hb:bv=(t*1000000000+s)*L+bl) (hw:W=(high*1000000000+a2)*L+wl) (ha2:a2<1000000000) (hwl:wl<L) (ht:0<t) (hg:g=high / t):W / bv<=g:=by
 subst hg;rw [Nat.le_div_iff_mul_le ht];have h1:W / bv*bv<=W:=Nat.div_mul_le_self W bv;generalize W / bv=q at *
 false_or_by_contra
 rename_i hn;have h2:high+1<=q*t:=by omega
 have hL:0<L:=by omega
 have h3:(high+1)*(1000000000*L)<=q*t*(1000000000*L):=Nat.mul_le_mul_right _ h2;have h4:(a2+1)*L<=1000000000*L:=Nat.mul_le_mul_right _ (by omega);have h5:q*bv=q*t*(1000000000*L)+q*(s*L)+q*bl:=by subst hb;grind
 have h6:(high*1000000000+a2)*L=high*(1000000000*L)+a2*L:=by grind
 rw [Nat.add_mul,Nat.one_mul] at h3 h4;omega
theorem Z06 {g rest:Nat} (hb:bv=(t*1000000000+s)*L+bl) (hw:W=(high*1000000000+a2)*L+wl) (hwl:wl<L) (hbv:0<bv) (hW:W<1000000000*bv)
  (hg:W / bv<=g) (hr:g*t+rest=high) (h:1000000000<=g\/rest*1000000000+a2<g*s):W / bv<=g-1/\0<g:=by
 have h1:W / bv<1000000000:=by rw [Nat.div_lt_iff_lt_mul hbv];exact hW
 rcases h with h | h
 ·omega
 ·have yC:0<g:=by
   rcases Nat.eq_zero_or_pos g with h0 | h0
   ·rw [h0,Nat.zero_mul] at h;omega
   ·exact h0
  refine ⟨?_,yC⟩;have:W / bv<g:=by
   rw [Nat.div_lt_iff_lt_mul hbv];have h2:(rest*1000000000+a2+1)*L<=g*s*L:=Nat.mul_le_mul_right _ h;have h3:g*bv=g*t*(1000000000*L)+g*s*L+g*bl:=by subst hb;grind
   have h4:W=g*t*(1000000000*L)+(rest*1000000000+a2)*L+wl:=by subst hw hr;grind
   rw [Nat.add_mul,Nat.one_mul] at h2;omega
  omega
theorem Z1H {g rest:Nat} (hb:bv=(t*1000000000+s)*L+bl) (hw:W=(high*1000000000+a2)*L+wl) (re:bl<L) (ht:0<t) (hs:s<1000000000)
  (hr:g*t+rest=high) (hg:g<1000000000) (h:1000000000<=rest\/g*s<=rest*1000000000+a2):g<=W / bv+1:=by
 have hbv:0<bv:=by
  have:1*L<=(t*1000000000+s)*L:=Nat.mul_le_mul_right _ (by omega);omega
 have h0:W<(W / bv+1)*bv:=by
  have:=Nat.lt_mul_div_succ W hbv;rw [Nat.mul_comm];exact this
 generalize W / bv=q at *
 false_or_by_contra
 rename_i hn;have h1:(q+1+1)*bv<=g*bv:=Nat.mul_le_mul_right _ (by omega);have h2:g*bv=g*t*(1000000000*L)+g*s*L+g*bl:=by subst hb;grind
 have h3:W=g*t*(1000000000*L)+(rest*1000000000+a2)*L+wl:=by subst hw hr;grind
 have h4:(q+1+1)*bv=(q+1)*bv+bv:=by rw [Nat.add_mul (q+1),Nat.one_mul]
 have h5:1000000000*L<=bv:=by
  have:1*(1000000000*L)<=t*(1000000000*L):=Nat.mul_le_mul_right _ ht;have e:(t*1000000000+s)*L=t*(1000000000*L)+s*L:=by grind
  omega
 have h6:g*bl<=g*L:=Nat.mul_le_mul_left _ (by omega);have h7:(g+1)*L<=1000000000*L:=Nat.mul_le_mul_right _ hg;rw [Nat.add_mul,Nat.one_mul] at h7;rcases h with h | h
 ·have h8:1000000000*(1000000000*L)<=(rest*1000000000+a2)*L:=by
   have:(1000000000*1000000000)*L<=(rest*1000000000+a2)*L:=Nat.mul_le_mul_right _ (by omega);grind
  have h9:g*s*L<=1000000000*(1000000000*L):=by
   have:g*s<=1000000000*1000000000:=Nat.mul_le_mul (by omega) (by omega);have:=Nat.mul_le_mul_right L this;grind
  omega
 ·have h8:g*s*L<=(rest*1000000000+a2)*L:=Nat.mul_le_mul_right _ h;omega
end
structure jG (p q:List Nat) (n i:Nat) (p':List Nat) (b:Nat):Prop where
 len:p'.length=p.length
 pcs:aS p'
 low:p'.take i=p.take i
 high:p'.drop (i+q.length+1)=p.drop (i+q.length+1)
 val:lv p'+n*(pB i*lv q)=lv p+b*pB (i+q.length+1)
 le:b<=1
structure kh (p q:List Nat) (i:Nat) (p':List Nat) (c:Nat):Prop where
 len:p'.length=p.length
 pcs:aS p'
 low:p'.take i=p.take i
 high:p'.drop (i+q.length+1)=p.drop (i+q.length+1)
 val:lv p'+c*pB (i+q.length+1)=lv p+pB i*lv q
theorem s9_ {A:List Nat} {i n bv:Nat} (h:lv (A.drop (i+1))<bv) (hb:bv<pB n):lv (A.drop (i+n+1))=0:=by
 by_cases hl:n<=(A.drop (i+1)).length
 ·have:=gG (A.drop (i+1)) n hl;rw [List.drop_drop] at this;rw [show i+n+1=i+1+n by omega];generalize lv (A.drop (i+1+n))=z at *
  cases z with
  | zero=>rfl
  | succ z=>rw [Nat.mul_succ] at this;omega
 ·rw [List.length_drop] at hl;rw [List.drop_eq_nil_of_le (by omega)];rfl
theorem y2_ {A A':List Nat} {i:Nat} (h:A'.take i=A.take i) (hl:A'.length=A.length) (hi:i<=A.length):lv A'+pB i*lv (A.drop i)=lv A+pB i*lv (A'.drop i):=by
 rw [gG A i hi,gG A' i (by omega),h];omega
theorem Z5J {b:List Nat} {m t s:Nat} (hl:b.length=m+2) (ht:b[m+1]?=some t) (hs:b[m]?=some s):lv b=(t*1000000000+s)*pB m+lv (b.take m):=by
 rw [gG b m (by omega),ek hs,ek ht,List.drop_eq_nil_of_le (by omega)];rw [dL];grind
theorem Z32 {A:List Nat} {m i a0 a1 a2:Nat} (h0:A[i+m+2]?=some a0) (h1:A[i+m+1]?=some a1) (h2:A[i+m]?=some a2) (hz:lv (A.drop (i+m+3))=0) :
  lv (A.drop i)=((a0*1000000000+a1)*1000000000+a2)*pB m+lv ((A.drop i).take m):=by
 have hl:=(n_.1 h0).1;rw [gG (A.drop i) m (by rw [List.length_drop];omega),List.drop_drop,ek h2,ek h1,ek h0,hz];grind
theorem Z5R {A A' b:List Nat} {V bv g i X n:Nat} (hT:jG A b g i A' 0) (hn:b.length=n) (hbv:lv b=bv) (sw:0<bv) (hi:i<=A.length)
  (inv:lv A+bv*(pB (i+1)*X)=V) (hg:lv (A.drop i) / bv<=g) :
  lv (A'.drop i)<bv/\lv A'+bv*(pB i*(g+1000000000*X))=V:=by
 have h1:=hT.val;have h2:=y2_ hT.low hT.len hi;rw [hbv,Nat.zero_mul,Nat.add_zero] at h1;rw [er] at inv;have hP:=kS i;have h3:pB i*(lv (A'.drop i)+g*bv)=pB i*lv (A.drop i):=by
  rw [Nat.mul_add];have:g*(pB i*bv)=pB i*(g*bv):=by grind
  omega
 have h4:=Nat.eq_of_mul_eq_mul_left hP h3;refine ⟨?_,?_⟩
 ·have h5:=Nat.lt_mul_div_succ (lv (A.drop i)) sw;have h6:bv*(lv (A.drop i) / bv)<=bv*g:=Nat.mul_le_mul_left _ hg;rw [Nat.mul_succ] at h5;have:g*bv=bv*g:=Nat.mul_comm _ _;omega
 ·have:bv*(pB i*(g+1000000000*X))=g*(pB i*bv)+bv*(1000000000*pB i*X):=by grind
  omega
theorem Z3o {A A' A'' b:List Nat} {V bv g i X n c:Nat} (hT:jG A b g i A' 1) (hB:kh A' b i A'' c) (hn:b.length=n) (hbv:lv b=bv) (sw:0<bv) (yg:bv<pB n) (hi:i+n+1<=A.length)
  (hA1:lv (A.drop (i+1))<bv) (inv:lv A+bv*(pB (i+1)*X)=V) (hg:g<=lv (A.drop i) / bv+1) :
  0<g/\lv (A''.drop i)<bv/\lv A''+bv*(pB i*(g-1+1000000000*X))=V:=by
 have h1:=hT.val;have h2:=y2_ hT.low hT.len (by omega);have h3:=hB.val;have h4:=y2_ (hB.low.trans hT.low) (hB.len.trans hT.len) (by omega);have hz:=s9_ hA1 yg;have hz1:=hT.high;have hz2:=hB.high;rw [hn] at hz1 hz2 h1 h3;have u1:lv (A'.drop i)<pB (n+1):=by
  have:=gG (A'.drop i) (n+1) (by rw [List.length_drop,hT.len];omega);rw [List.drop_drop,show i+(n+1)=i+n+1 by omega,hz1,hz,Nat.mul_zero,Nat.add_zero] at this;rw [this];have hl:=eY ((hT.pcs.drop i).take (n+1));rw [oF,List.length_drop,hT.len,Nat.min_eq_left (by omega)] at hl;exact hl
 have u2:lv (A''.drop i)<pB (n+1):=by
  have:=gG (A''.drop i) (n+1) (by rw [List.length_drop,hB.len,hT.len];omega);rw [List.drop_drop,show i+(n+1)=i+n+1 by omega,hz2,hz1,hz,Nat.mul_zero,Nat.add_zero] at this;rw [this];have hl:=eY ((hB.pcs.drop i).take (n+1));rw [oF,List.length_drop,hB.len,hT.len,Nat.min_eq_left (by omega)] at hl;exact hl
 have hP:=kS i;rw [hbv] at h1 h3;rw [show i+n+1=i+(n+1) by omega,lL] at h1 h3;rw [er] at inv;have e1:lv (A'.drop i)+g*bv=lv (A.drop i)+pB (n+1):=by
  refine Nat.eq_of_mul_eq_mul_left hP ?_;rw [Nat.mul_add,Nat.mul_add];have:g*(pB i*bv)=pB i*(g*bv):=by grind
  omega
 have e2:lv (A''.drop i)+c*pB (n+1)=lv (A'.drop i)+bv:=by
  refine Nat.eq_of_mul_eq_mul_left hP ?_;rw [Nat.mul_add,Nat.mul_add];have:c*(pB i*pB (n+1))=pB i*(c*pB (n+1)):=by grind
  omega
 have h5:=Nat.div_add_mod (lv (A.drop i)) bv;have h6:=Nat.mod_lt (lv (A.drop i)) sw;generalize lv (A.drop i) / bv=q at *
 generalize lv (A.drop i)%bv=r at *
 have N7:bv<pB (n+1):=by rw [er];omega
 have qe:g=q+1:=by
  false_or_by_contra
  rename_i hne;have:g*bv<=q*bv:=Nat.mul_le_mul_right _ (by omega);rw [Nat.mul_comm q bv] at this;omega
 subst qe;rw [Nat.add_mul,Nat.one_mul,Nat.mul_comm q bv] at e1;have hc:c=1:=by
  match c with
  | 0=>omega
  | 1=>rfl
  | c+2 =>
   exfalso;have:(c+2)*pB (n+1)=c*pB (n+1)+2*pB (n+1):=Nat.add_mul _ _ _;omega
 subst hc;refine ⟨by omega,by omega,?_⟩;rw [Nat.add_sub_cancel];have:bv*(pB i*(q+1000000000*X))=q*(pB i*bv)+bv*(1000000000*pB i*X):=by grind
 have:(q+1)*(pB i*bv)=q*(pB i*bv)+pB i*bv:=by rw [Nat.add_mul,Nat.one_mul]
 omega
theorem Z5c {u v f V bv R Q:Nat} (hV:V=u*f) (hbv:bv=v*f) (hv:0<v) (hf:0<f) (h:R+bv*Q=V) (hR:R<bv):Q=u / v/\R=(u%v)*f:=by
 subst hV hbv;have K6:0<v*f:=Nat.mul_pos hv hf;have e1:Q=u*f / (v*f):=by
  rw [<- h,Nat.add_mul_div_left _ _ K6,Nat.div_eq_of_lt hR,Nat.zero_add]
 have e2:R=u*f%(v*f):=by
  rw [<- h,Nat.add_mul_mod_self_left,Nat.mod_eq_of_lt hR]
 rw [Nat.mul_div_mul_right _ _ hf] at e1;rw [Nat.mul_mod_mul_right] at e2;exact ⟨e1,e2⟩
theorem lH (u k:Nat) (h:u<10^k) (hk:1<=k):Lib.nDigits u<=k:=by
 false_or_by_contra
 rename_i hn;have h0:u≠0:=by
  intro e;subst e;rw [Lib.nDigits_small (by omega)] at hn;omega
 have h1:=P4_ u (by omega);have h2:10^k<=10^(Lib.nDigits u-1):=Nat.pow_le_pow_right (by omega) (by omega);exact absurd (oH h (oI h2 h1)) (Nat.lt_irrefl u)
def dv:List UInt8->Nat
 | []=>0
 | c::r=>(c.toNat-48)+10*dv r
theorem A9_ (c:UInt8) (r:List UInt8):dv (c::r)=(c.toNat-48)+10*dv r:=rfl
theorem Z1m (a b:List UInt8):dv (a++b)=dv a+10^a.length*dv b:=by
 induction a with
 | nil=>rw [List.nil_append,List.length_nil,Nat.pow_zero,Nat.one_mul];show _=0+_;omega
 | cons x r ih=>rw [List.cons_append,A9_,A9_,ih,List.length_cons,Nat.pow_succ];grind
theorem t6_ (l:List UInt8):ak 0 l.reverse=dv l:=by
 induction l with
 | nil=>rfl
 | cons c r ih=>rw [List.reverse_cons,jk,ih,fB,jN,A9_];omega
theorem C0_ {l:List UInt8} (h:l.all cI=true) (hne:l≠[]) (hh:l.head?≠some 48\/l.length=1):l=Lib.decDigits (ak 0 l):=by
 have hp:0<l.length:=List.length_pos_iff.2 hne;have h1:=nA l 0 h;rw [Nat.zero_add,Nat.one_mul] at h1;have h2:=lH _ _ h1 hp;have h3:l.length=Lib.nDigits (ak 0 l):=by
  rcases hh with hh | hh
  ·cases l with
   | nil=>exact absurd rfl hne
   | cons c r =>
    rw [List.all_cons,Bool.and_eq_true] at h;have hc:48<=c.toNat/\c.toNat<=57:=of_decide_eq_true h.1;have J7:49<=c.toNat:=by
     false_or_by_contra
     rename_i hn;have:c.toNat=(48:UInt8).toNat:=by show c.toNat=48;omega
     exact hh (by rw [UInt8.toNat_inj.1 this];rfl)
    have h4:=Z1f r (0*10+(c.toNat-48));rw [<- fB] at h4;have h5:1*10^r.length<=(0*10+(c.toNat-48))*10^r.length:=Nat.mul_le_mul_right _ (by omega);have h6:=Lib.lt_pow_nDigits (ak 0 (c::r));rw [List.length_cons] at h2 |-;have h7:10^r.length<10^Lib.nDigits (ak 0 (c::r)):=by omega
    have h8:=(Nat.pow_lt_pow_iff_right (a:=10) (by omega)).1 h7;omega
  ·have:=Lib.nDigits_pos (ak 0 l);omega
 refine ((U6_ l (Lib.decDigits (ak 0 l)) h (gP _) ?_).2).2 (fx _).symm;rw [Lib.decDigits_length];exact h3
theorem Z2j (k:Nat):pB k=10^(9*k):=by
 induction k with
 | zero=>rfl
 | succ k ih =>
  rw [er,ih,show 9*(k+1)=9*k+9 by omega,Nat.pow_add,Nat.mul_comm]
theorem Z0Q {out:List UInt8} {n S:Nat} {c:UInt8} (hc:c.toNat=48+n%10) (inv:dv out+10^out.length*n=S) :
  dv (out++[c])+10^(out++[c]).length*(n / 10)=S:=by
 have e:=Nat.div_add_mod n 10;rw [Z1m,oU,A9_];show dv out+10^out.length*(c.toNat-48+10*0)+10^(out.length+1)*(n / 10)=S;rw [hc,Nat.pow_succ];generalize n / 10=d at *
 generalize n%10=m at *
 have:48+m-48+10*0=m:=by omega
 rw [this,<- inv,<- e];grind
theorem t2_ {l:List UInt8} {e k S:Nat} (he:e<=l.length) (hk:l.length-e=9*k) (f:Nat) (hf:f<=e) (inv:S=ak 0 (l.drop e)) :
  S+pB k*ak 0 ((l.take e).drop f)=ak 0 (l.drop f):=by
 have h1:l.drop f=(l.take e).drop f++l.drop e:=by
  rw [<- List.drop_append_of_le_length (by rw [oF];omega),List.take_append_drop]
 rw [h1,jk,M4_ (l.drop e) (ak 0 _),inv,Z2j,List.length_drop,hk,Nat.mul_comm,Nat.add_comm]
theorem L4_ {l:List UInt8} (h:l.all cI=true) (hl:l.length<=9):ak 0 l<1000000000:=by
 have h1:=nA l 0 h;rw [Nat.zero_add,Nat.one_mul] at h1;have h2:10^l.length<=10^9:=Nat.pow_le_pow_right (by omega) hl;rw [show (10:Nat)^9=1000000000 by decide] at h2;omega
theorem ml {l:List UInt8} (h:l.all cI=true) (e f:Nat):((l.take e).drop f).all cI=true:=by
 rw [List.all_eq_true] at h |-;exact fun x hx=>h x (List.mem_of_mem_take (List.mem_of_mem_drop hx))
def bj (u v:Nat):Int:=if u<v then -1 else if u=v then 0 else 1
theorem kx {u v:Nat} (h:u<v):bj u v=-1:=by unfold bj;rw [if_pos h]
theorem mv {u v:Nat} (h:v<u):bj u v=1:=by unfold bj;rw [if_neg (by omega),if_neg (by omega)]
theorem Z19 {u v:Nat} (h:u=v):bj u v=0:=by unfold bj;rw [if_neg (by omega),if_pos h]
theorem gY {u v:Nat} (h:u<=v):(aE u).size<=(aE v).size:=by
 rw [dz,dz]
 false_or_by_contra
 rename_i hn;have:=P5_ (u:=v) (v:=u) (by omega);omega
theorem Z9_ (u v:Nat):(aE (u+v)).size<=max (aE u).size (aE v).size+1:=by
 rw [dz,dz,dz];have h1:=Lib.lt_pow_nDigits u;have h2:=Lib.lt_pow_nDigits v;have h3:10^Lib.nDigits u<=10^max (Lib.nDigits u) (Lib.nDigits v):=Nat.pow_le_pow_right (by omega) (by omega);have h4:10^Lib.nDigits v<=10^max (Lib.nDigits u) (Lib.nDigits v):=Nat.pow_le_pow_right (by omega) (by omega);refine lH _ _ ?_ (by omega);rw [Nat.pow_succ];omega
theorem nS (u v:Nat):(aE (u*v)).size<=(aE u).size+(aE v).size:=by
 rw [dz,dz,dz];have h1:=Lib.lt_pow_nDigits u;have h2:=Lib.lt_pow_nDigits v;have h3:=Lib.nDigits_pos u;refine lH _ _ ?_ (by omega);rw [Nat.pow_add];exact Nat.mul_lt_mul'' h1 h2
end Go.Proofs.YtjlkkofmojgipaaGreatDoor
