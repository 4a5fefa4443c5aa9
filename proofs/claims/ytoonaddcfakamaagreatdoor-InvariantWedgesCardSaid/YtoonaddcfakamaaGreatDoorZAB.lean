import Derived.Test.YtoonaddcfakamaaGreatDoorZAA
import Derived.Lib.AtoiAllCases
import Derived.Lib.ItoaNum
import Derived.Lib.ItoaMem
import Derived.Laws.Cover1
import Derived.Lib.Strings
set_option linter.unusedVariables false
set_option linter.unusedSimpArgs false
namespace Go.Proofs.YtoonaddcfakamaaGreatDoor
open Go.RowKit
def cI (c:UInt8):Bool:=decide (48<=c.toNat/\c.toNat<=57)
def jv (l:List UInt8):List UInt8:=match l with
 | 45::r=>r
 | l=>l
def kP (l:List UInt8):Bool:=(jv l).all cI && (l == [48] || ((jv l) != [] && (jv l).head? != some 48))
def bB (a:Nat) (l:List UInt8):Nat:=l.foldl (fun a c=>a*10+(c.toNat-48)) a
def iN (l:List UInt8):Int:=if l.head?=some 45 then -(bB 0 l.tail:Int) else (bB 0 l:Int)
theorem A4_ (r:List UInt8):jv (45::r)=r:=rfl
theorem A5_ {c:UInt8} {r:List UInt8} (h:c≠45):jv (c::r)=c::r:=by
 unfold jv
 split
 ·rename_i heq;simp only [List.cons.injEq] at heq;exact absurd heq.1 h
 ·rfl
theorem P5_ (r:List UInt8):iN (45::r)=-(bB 0 r:Int):=by unfold iN;rw [if_pos (by rfl)];rfl
theorem P6_ {c:UInt8} {r:List UInt8} (h:c≠45):iN (c::r)=(bB 0 (c::r):Int):=by
 unfold iN;rw [if_neg (by simp [h])]
theorem jj (a:Nat):bB a []=a:=rfl
theorem gM (a:Nat) (c:UInt8) (r:List UInt8):bB a (c::r)=bB (a*10+(c.toNat-48)) r:=by unfold bB;rw [List.foldl_cons]
theorem nf (l r:List UInt8) (a:Nat):bB a (l++r)=bB (bB a l) r:=by
 unfold bB;rw [List.foldl_append]
theorem Z26 (l:List UInt8):∀ a:Nat,a*10^l.length<=bB a l:=by
 induction l with
 | nil=>intro a;rw [List.length_nil,Nat.pow_zero,Nat.mul_one];exact oz _
 | cons c r ih =>
  intro a;have h1:=ih (a*10+(c.toNat-48));have h2:a*10^(c::r).length=(a*10)*10^r.length:=by
   rw [List.length_cons,Nat.pow_succ,Nat.mul_comm (10^r.length) 10,Nat.mul_assoc]
  have h3:(a*10)*10^r.length<=(a*10+(c.toNat-48))*10^r.length:=Nat.mul_le_mul_right _ (by omega);rw [h2,gM];exact ow h3 h1
theorem w4_ (l:List UInt8):∀ a:Nat,l.all cI=true->bB a l<(a+1)*10^l.length:=by
 induction l with
 | nil=>intro a _;rw [List.length_nil,Nat.pow_zero,Nat.mul_one];exact Nat.lt_succ_self _
 | cons c r ih =>
  intro a h;rw [List.all_cons,Bool.and_eq_true] at h;have hc:48<=c.toNat/\c.toNat<=57:=of_decide_eq_true h.1;have h1:=ih (a*10+(c.toNat-48)) h.2;have h2:(a+1)*10^(c::r).length=((a+1)*10)*10^r.length:=by
   rw [List.length_cons,Nat.pow_succ,Nat.mul_comm (10^r.length) 10,Nat.mul_assoc]
  have h3:(a*10+(c.toNat-48)+1)*10^r.length<=((a+1)*10)*10^r.length:=Nat.mul_le_mul_right _ (by omega);rw [h2,gM];exact ov h1 h3
theorem p3_ (l:List UInt8) (a:Nat):a<=bB a l:=by
 have:=Z26 l a;have h1:1<=10^l.length:=Nat.one_le_pow _ _ (by omega);exact ow (Nat.le_mul_of_pos_right _ h1) this
theorem oH (l:List UInt8):∀ a:Nat,l.all cI=true->bB a l<18446744073709551616->Lib.parseUint10 a l=.ok (bB a l):=by
 induction l with
 | nil=>intro a _ _;rw [jj];rfl
 | cons c r ih =>
  intro a h hv;rw [List.all_cons,Bool.and_eq_true] at h;have hc:48<=c.toNat/\c.toNat<=57:=of_decide_eq_true h.1;have hs:=p3_ r (a*10+(c.toNat-48));have tU:bB (a*10+(c.toNat-48)) r<18446744073709551616:=by rw [gM] at hv;exact hv
  have h1:¬ 1844674407370955162<=a:=by omega
  have h2:¬ 18446744073709551616<=a*10+(c.toNat-48):=by omega
  rw [Lib.parseUint10,if_pos hc,if_neg h1,if_neg h2,gM];exact ih _ h.2 tU
theorem Y4_ (l:List UInt8):∀ a:Nat,l.all cI=true->a<18446744073709551616->¬ bB a l<18446744073709551616->Lib.parseUint10 a l=.range:=by
 induction l with
 | nil=>intro a _ ha hv;rw [jj] at hv;exact absurd ha hv
 | cons c r ih =>
  intro a h ha hv;rw [List.all_cons,Bool.and_eq_true] at h;have hc:48<=c.toNat/\c.toNat<=57:=of_decide_eq_true h.1;have tU:¬ bB (a*10+(c.toNat-48)) r<18446744073709551616:=by rw [gM] at hv;exact hv
  rw [Lib.parseUint10,if_pos hc];by_cases h1:1844674407370955162<=a;·rw [if_pos h1]
  ·rw [if_neg h1];by_cases h2:18446744073709551616<=a*10+(c.toNat-48);·rw [if_pos h2]
   ·rw [if_neg h2];exact ih _ h.2 (by omega) tU
theorem O3_ {l:List UInt8} (h:kP l=true):(∃ r,l=45::r/\r≠[]/\r.all cI=true/\r.head?≠some 48)\/(∃ c r,l=c::r/\c≠45/\c≠43/\(c::r).all cI=true/\(l=[48]\/c≠48)):=by
 unfold kP at h;rw [Bool.and_eq_true,Bool.or_eq_true] at h;obtain ⟨h1,h2⟩:=h;cases l with
 | nil=>simp [jv] at h2
 | cons c r =>
  by_cases hc:c=45
  ·subst hc;refine .inl ⟨r,rfl,?_,h1,?_⟩
   ·rintro rfl;rcases h2 with h2 | h2;·simp at h2
    ·simp [jv] at h2
   ·rcases h2 with h2 | h2;·simp at h2
    ·simp only [A4_,Bool.and_eq_true,bne_iff_ne,ne_eq] at h2;exact h2.2
  ·rw [A5_ hc] at h1 h2;refine .inr ⟨c,r,rfl,hc,?_,h1,?_⟩
   ·rintro rfl;simp only [List.all_cons,Bool.and_eq_true] at h1;exact absurd h1.1 (by decide)
   ·rcases h2 with h2 | h2;·exact .inl (by simpa using h2)
    ·simp only [List.head?_cons,Bool.and_eq_true,bne_iff_ne,ne_eq,Option.some.injEq] at h2;exact .inr h2.2
theorem T1_ {l:List UInt8} (h:kP l=true) (hv:-9223372036854775808<=iN l/\iN l<=9223372036854775807):Lib.atoiAll l=.ok (iN l):=by
 rcases O3_ h with ⟨r,rfl,hne,hd,-⟩ | ⟨c,r,rfl,DH,Gv,hd,-⟩
 ·rw [P5_] at hv |-;have h1:¬ 9223372036854775808<bB 0 r:=by omega
  rw [Lib.atoiAll_minus];unfold Lib.parseMag;rw [if_neg hne,oH r 0 hd (by omega)];show (if 9223372036854775808<bB 0 r then _ else _)=_;rw [if_neg h1]
 ·rw [P6_ DH] at hv |-;have h1:¬ 9223372036854775808<=bB 0 (c::r):=by omega
  rw [Lib.atoiAll_plain c r (fun e=>Gv (UInt8.toNat_inj.1 e)) (fun e=>DH (UInt8.toNat_inj.1 e))];unfold Lib.parseMag;rw [if_neg (List.cons_ne_nil _ _),oH _ 0 hd (by omega)];show (if 9223372036854775808<=bB 0 (c::r) then _ else _)=_;rw [if_neg h1]
theorem M2_ {l:List UInt8} (h:kP l=true) (hv:¬ (-9223372036854775808<=iN l/\iN l<=9223372036854775807)):Lib.atoiAll l=.range:=by
 rcases O3_ h with ⟨r,rfl,hne,hd,-⟩ | ⟨c,r,rfl,DH,Gv,hd,-⟩
 ·rw [P5_] at hv;have h1:9223372036854775808<bB 0 r:=by omega
  rw [Lib.atoiAll_minus];unfold Lib.parseMag;rw [if_neg hne];by_cases hb:bB 0 r<18446744073709551616
  ·rw [oH r 0 hd hb];show (if 9223372036854775808<bB 0 r then _ else _)=_;rw [if_pos h1]
  ·rw [Y4_ r 0 hd (by omega) hb];rfl
 ·rw [P6_ DH] at hv;have h1:9223372036854775808<=bB 0 (c::r):=by omega
  rw [Lib.atoiAll_plain c r (fun e=>Gv (UInt8.toNat_inj.1 e)) (fun e=>DH (UInt8.toNat_inj.1 e))];unfold Lib.parseMag;rw [if_neg (List.cons_ne_nil _ _)];by_cases hb:bB 0 (c::r)<18446744073709551616
  ·rw [oH _ 0 hd hb];show (if 9223372036854775808<=bB 0 (c::r) then _ else _)=_;rw [if_pos h1]
  ·rw [Y4_ _ 0 hd (by omega) hb];rfl
theorem na:∀ (n u:Nat),u<n->(Lib.decDigits u).all cI=true/\bB 0 (Lib.decDigits u)=u/\Lib.decDigits u≠[]/\((Lib.decDigits u).head?=some 48->u=0):=by
 have one:∀ i,i<10->cI (UInt8.ofNat (48+i))=true/\(UInt8.ofNat (48+i)).toNat=48+i:=by
  intro i hi;have h:(UInt8.ofNat (48+i)).toNat=48+i:=by
   rw [UInt8.toNat_ofNat'];omega
  refine ⟨?_,h⟩;unfold cI;rw [h];exact pE (by omega)
 intro n
 induction n with
 | zero=>intro u h;omega
 | succ n ih =>
  intro u hu;by_cases h10:u<10
  ·rw [Lib.decDigits_one h10];obtain ⟨h1,h2⟩:=one u h10;refine ⟨by rw [List.all_cons,h1];rfl,by rw [gM,jj,h2];omega,by simp,fun h=>?_⟩;simp only [List.head?_cons,Option.some.injEq] at h;rw [h] at h2;have:(48:UInt8).toNat=48:=rfl;omega
  ·obtain ⟨k1,k2,k3,k4⟩:=ih (u / 10) (by omega);obtain ⟨h1,h2⟩:=one (u%10) (Nat.mod_lt _ (by omega));have e:Lib.decDigits u=Lib.decDigits (u / 10)++[UInt8.ofNat (48+u%10)]:=by
    rw [Lib.decDigits,dif_neg h10]
   rw [e];refine ⟨by rw [List.all_append,k1,List.all_cons,h1];rfl,?_,by simp,fun h=>?_⟩
   ·rw [nf,k2];rw [gM,jj,h2];omega
   ·obtain ⟨c,t,ht⟩:=List.exists_cons_of_ne_nil k3;rw [ht] at h k4;have:=k4 (by simpa using h);omega
theorem n8 (x:Int):kP (Lib.itoa x)=true/\iN (Lib.itoa x)=x/\32∉Lib.itoa x/\Lib.itoa x≠[]:=by
 have nospace:∀ l:List UInt8,l.all cI=true->32∉l:=by
  intro l h hm;have:=List.all_eq_true.1 h 32 hm;exact absurd this (by decide)
 unfold Lib.itoa
 split
 ·obtain ⟨h1,h2,h3,h4⟩:=na _ x.natAbs (Nat.lt_succ_self _);refine ⟨?_,by rw [P5_,h2];omega,?_,by simp⟩
  ·unfold kP;rw [A4_,h1];have e1:(Lib.decDigits x.natAbs != [])=true:=bne_iff_ne.2 h3;have e2:((Lib.decDigits x.natAbs).head? != some 48)=true:=bne_iff_ne.2 (fun h=>by have:=h4 h;omega);rw [e1,e2];simp
  ·simp only [List.mem_cons,not_or];exact ⟨by decide,nospace _ h1⟩
 ·obtain ⟨h1,h2,h3,h4⟩:=na _ x.toNat (Nat.lt_succ_self _);obtain ⟨c,t,ht⟩:=List.exists_cons_of_ne_nil h3;have hc:c≠45:=by
   rintro rfl;rw [ht] at h1;simp only [List.all_cons,Bool.and_eq_true] at h1;exact absurd h1.1 (by decide)
  refine ⟨?_,?_,nospace _ h1,h3⟩
  ·unfold kP;have e1:(Lib.decDigits x.toNat != [])=true:=bne_iff_ne.2 h3;have hm:jv (Lib.decDigits x.toNat)=Lib.decDigits x.toNat:=(by rw [ht,A5_ hc]);rw [hm,h1,e1,Bool.true_and,Bool.or_eq_true,Bool.true_and];by_cases h0:x.toNat=0;·left;rw [h0,Lib.decDigits_one (by omega)];rfl
   ·right;exact bne_iff_ne.2 (fun h=>h0 (h4 h))
  ·have:iN (Lib.decDigits x.toNat)=bB 0 (Lib.decDigits x.toNat):=(by rw [ht,P6_ hc]);rw [this,h2];omega
theorem w3_ (l:List UInt8):∀ a:Nat,bB a l=a*10^l.length+bB 0 l:=by
 induction l with
 | nil=>intro a;rw [jj,jj,List.length_nil,Nat.pow_zero,Nat.mul_one,Nat.add_zero]
 | cons c r ih =>
  intro a;rw [gM,gM,ih (a*10+(c.toNat-48)),ih (0*10+(c.toNat-48)),List.length_cons,Nat.pow_succ,Nat.add_mul,Nat.zero_mul,Nat.zero_add,Nat.mul_comm (10^r.length) 10,<- Nat.mul_assoc,Nat.add_assoc]
theorem U7_:∀ (l r:List UInt8),l.all cI=true->r.all cI=true->l.length=r.length->(Op.bytesLess l r=decide (bB 0 l<bB 0 r))/\(l=r↔bB 0 l=bB 0 r)
 | [],[],_,_,_=>by
  constructor;·rw [jj];simp [Op.bytesLess]
  ·simp
 | c::l,[],_,_,h=>by simp at h
 | [],d::r,_,_,h=>by simp at h
 | c::l,d::r,hl,hr,h=>by
  rw [List.all_cons,Bool.and_eq_true] at hl hr;have hc:48<=c.toNat/\c.toNat<=57:=of_decide_eq_true hl.1;have hd:48<=d.toNat/\d.toNat<=57:=of_decide_eq_true hr.1;have hlen:l.length=r.length:=by simpa using h
  obtain ⟨IC,IB⟩:=U7_ l r hl.2 hr.2 hlen;have b1:=w4_ l 0 hl.2;have b2:=w4_ r 0 hr.2;rw [hlen] at b1;rw [gM,gM,w3_ l,w3_ r,hlen];obtain ⟨P,hP⟩:=pL (10^r.length);obtain ⟨x,hx⟩:=pL (bB 0 l);obtain ⟨y,hy⟩:=pL (bB 0 r);rw [<- hP,<- hx] at b1;rw [<- hP,<- hy] at b2;rw [<- hx,<- hy] at IC IB;rw [<- hP,<- hx,<- hy,Nat.zero_mul,Nat.zero_add,Nat.zero_add];rw [Nat.zero_add,Nat.one_mul] at b1 b2;clear hP hx hy;rcases Nat.lt_trichotomy c.toNat d.toNat with vD | vD | vD
  ·have e:(c.toNat-48+1)*P<=(d.toNat-48)*P:=Nat.mul_le_mul_right _ (by omega);rw [Nat.succ_mul] at e;have hlt:(c.toNat-48)*P+x<(d.toNat-48)*P+y:=(by omega);constructor
   ·rw [pE hlt];have:c<d:=UInt8.lt_iff_toNat_lt.2 vD;simp [Op.bytesLess,this]
   ·constructor
    ·intro he;simp only [List.cons.injEq] at he;rw [he.1] at vD;omega
    ·intro he;omega
  ·have F6:c=d:=UInt8.toNat_inj.1 vD;subst F6;constructor
   ·have e:((c.toNat-48)*P+x<(c.toNat-48)*P+y)↔x<y:=(by omega);rw [show decide ((c.toNat-48)*P+x<(c.toNat-48)*P+y)=decide (x<y) by rw [decide_eq_decide];exact e,<- IC];simp [Op.bytesLess]
   ·simp only [List.cons.injEq,true_and];rw [IB];omega
  ·have e:(d.toNat-48+1)*P<=(c.toNat-48)*P:=Nat.mul_le_mul_right _ (by omega);rw [Nat.succ_mul] at e;have hlt:¬ (c.toNat-48)*P+x<(d.toNat-48)*P+y:=(by omega);constructor
   ·rw [pD hlt];have h1:¬ c<d:=fun h=>by have:=UInt8.lt_iff_toNat_lt.1 h;omega
    have h2:d<c:=UInt8.lt_iff_toNat_lt.2 vD;have h3:(c == d)=false:=beq_false_of_ne (fun e=>by rw [e] at vD;omega);simp [Op.bytesLess,h1,h3]
   ·constructor
    ·intro he;simp only [List.cons.injEq] at he;rw [he.1] at vD;omega
    ·intro he;omega
def aE (u:Nat):ByteArray:=⟨(Lib.decDigits u).toArray⟩
def aB (n:Int):ByteArray:=⟨(Lib.itoa n).toArray⟩
theorem jw (u:Nat):(aE u).data.toList=Lib.decDigits u:=by unfold aE;simp
theorem S0_ (n:Int):(aB n).data.toList=Lib.itoa n:=by unfold aB;simp
theorem jP (u:Nat):(aE u).toList=Lib.decDigits u:=by rw [Lib.toList_data,jw]
theorem H2_ (n:Int):(aB n).toList=Lib.itoa n:=by rw [Lib.toList_data,S0_]
theorem fC (u:Nat):(aE u).size=Lib.nDigits u:=by rw [Lib.size_eq,jw,Lib.decDigits_length]
theorem fw (n:Int) (h:0<=n):aB n=aE n.toNat:=by unfold aB aE Lib.itoa;rw [if_neg (by omega)]
theorem L4_ (n:Int) (h:n<0):(aB n).data.toList=45::(aE n.natAbs).data.toList:=by rw [S0_,jw];unfold Lib.itoa;rw [if_pos h]
theorem mV (u:Nat):(Lib.decDigits u).all cI=true:=(na _ u (Nat.lt_succ_self _)).1
theorem jk (u:Nat):bB 0 (Lib.decDigits u)=u:=(na _ u (Nat.lt_succ_self _)).2.1
theorem Z0H {u v:Nat} (h:Lib.decDigits u=Lib.decDigits v):u=v:=by rw [<- jk u,<- jk v,h]
theorem T4_ (u v:Nat):(Lib.decDigits u == Lib.decDigits v)=decide (u=v):=by
 rw [Bool.eq_iff_iff,beq_iff_eq,decide_eq_true_iff];exact ⟨Z0H,fun h=>by rw [h]⟩
theorem Z4L {x y:Int} (h:Lib.itoa x=Lib.itoa y):x=y:=by rw [<- (n8 x).2.1,<- (n8 y).2.1,h]
theorem Z2M (x y:Int):(Lib.itoa x == Lib.itoa y)=decide (x=y):=by
 rw [Bool.eq_iff_iff,beq_iff_eq,decide_eq_true_iff];exact ⟨Z4L,fun h=>by rw [h]⟩
theorem A7_ (u:Nat):1<=u->10^(Lib.nDigits u-1)<=u:=by
 induction u using Nat.strongRecOn with
 | ind u ih =>
  intro h1;by_cases h:u<10;·rw [Lib.nDigits_small h];exact h1
  ·rw [Lib.nDigits_big h];have h2:=ih (u / 10) (by omega) (by omega);have h3:=Lib.nDigits_pos (u / 10);obtain ⟨k,hk⟩:∃ k,Lib.nDigits (u / 10)=k+1:=⟨Lib.nDigits (u / 10)-1,by omega⟩;rw [hk] at h2 |-;simp only [Nat.add_sub_cancel] at h2 |-;rw [Nat.pow_succ];omega
theorem P3_ {u v:Nat} (h:Lib.nDigits u<Lib.nDigits v):u<v:=by
 have h1:=Lib.lt_pow_nDigits u;by_cases h10:v<10
 ·rw [Lib.nDigits_small h10] at h;have:=Lib.nDigits_pos u;omega
 ·have h2:10^(Lib.nDigits v-1)<=v:=A7_ v (by omega);have h3:10^Lib.nDigits u<=10^(Lib.nDigits v-1):=Nat.pow_le_pow_right (by omega) (by omega);exact ov (ov h1 h3) h2
theorem a5_ (u v:Nat) (h:Lib.nDigits u=Lib.nDigits v):Op.bytesLess (Lib.decDigits u) (Lib.decDigits v)=decide (u<v):=by
 have:=(U7_ (Lib.decDigits u) (Lib.decDigits v) (mV u) (mV v) (by rw [Lib.decDigits_length,Lib.decDigits_length,h])).1;rw [jk,jk] at this;exact this
def pB:Nat->Nat
 | 0=>1
 | k+1=>1000000000*pB k
theorem mq:pB 0=1:=rfl
theorem fD (k:Nat):pB (k+1)=1000000000*pB k:=rfl
theorem lk (k:Nat):0<pB k:=by
 induction k with
 | zero=>exact Nat.one_pos
 | succ k ih=>rw [fD];omega
theorem lj (a b:Nat):pB (a+b)=pB a*pB b:=by
 induction a with
 | zero=>rw [Nat.zero_add,mq,Nat.one_mul]
 | succ a ih=>rw [Nat.succ_add,fD,fD,ih,Nat.mul_assoc]
theorem u9_ {a b:Nat} (h:a<=b):pB a<=pB b:=by
 obtain ⟨c,rfl⟩:=Nat.exists_eq_add_of_le h;rw [lj];exact Nat.le_mul_of_pos_right _ (lk c)
def lv:List Nat->Nat
 | []=>0
 | x::r=>x+1000000000*lv r
theorem eJ:lv []=0:=rfl
theorem fj (x:Nat) (r:List Nat):lv (x::r)=x+1000000000*lv r:=rfl
theorem jM (a b:List Nat):lv (a++b)=lv a+pB a.length*lv b:=by
 induction a with
 | nil=>rw [List.nil_append,eJ,List.length_nil,mq,Nat.one_mul,Nat.zero_add]
 | cons x r ih=>rw [List.cons_append,fj,fj,ih,List.length_cons,fD,Nat.mul_add,Nat.mul_assoc,Nat.add_assoc]
def aP (l:List Nat):Prop:=∀ x∈l,x<1000000000
theorem aP.nil:aP []:=fun x h=>by simp at h
theorem aP.cons {x:Nat} {l:List Nat} (hx:x<1000000000) (h:aP l):aP (x::l):=fun y hy=>by
 rcases List.mem_cons.1 hy with rfl | hy;·exact hx
 ·exact h y hy
theorem aP.tail {x:Nat} {l:List Nat} (h:aP (x::l)):aP l:=fun y hy=>h y (List.mem_cons_of_mem _ hy)
theorem aP.append {a b:List Nat} (h:aP a) (k:aP b):aP (a++b):=fun y hy=>by
 rcases List.mem_append.1 hy with hy | hy;·exact h y hy
 ·exact k y hy
theorem aP.take {l:List Nat} (h:aP l) (k:Nat):aP (l.take k):=fun y hy=>h y (List.mem_of_mem_take hy)
theorem aP.drop {l:List Nat} (h:aP l) (k:Nat):aP (l.drop k):=fun y hy=>h y (List.mem_of_mem_drop hy)
theorem aP.set {l:List Nat} (h:aP l) (k x:Nat) (hx:x<1000000000):aP (l.set k x):=fun y hy=>by
 rcases List.mem_or_eq_of_mem_set hy with hy | rfl;·exact h y hy
 ·exact hx
theorem aP.zeros (n:Nat):aP (List.replicate n 0):=fun y hy=>by
 have:=(List.mem_replicate.1 hy).2;omega
theorem aP.get {l:List Nat} (h:aP l) {k x:Nat} (hx:l[k]?=some x):x<1000000000:=h x (og hx)
theorem fB {l:List Nat} (h:aP l):lv l<pB l.length:=by
 induction l with
 | nil=>exact Nat.one_pos
 | cons x r ih =>
  have h1:=h x (by simp);have h2:=ih h.tail;rw [fj,List.length_cons,fD];omega
theorem u1_ (n:Nat):lv (List.replicate n 0)=0:=by
 induction n with
 | zero=>rfl
 | succ n ih=>rw [List.replicate_succ,fj,ih]
theorem gQ (l:List Nat) (k:Nat) (h:k<=l.length):lv l=lv (l.take k)+pB k*lv (l.drop k):=by
 have:=jM (l.take k) (l.drop k);rw [List.take_append_drop,om,Nat.min_eq_left h] at this;exact this
theorem ju {l:List Nat} {k x:Nat} (h:l[k]?=some x):lv (l.take (k+1))=lv (l.take k)+pB k*x:=by
 have hk:=(od.1 h).1;rw [ou,h,jM,om,Nat.min_eq_left (by omega)];show _+pB k*(x+1000000000*0)=_;rw [Nat.mul_zero,Nat.add_zero]
theorem fk {l:List Nat} {k x:Nat} (h:l[k]?=some x):lv (l.drop k)=x+1000000000*lv (l.drop (k+1)):=by
 have hk:=(od.1 h).1;have e:l[k]=x:=(od.1 h).2;rw [List.drop_eq_getElem_cons hk,fj,e]
theorem oD {l:List Nat} {k a:Nat} (b:Nat) (h:l[k]?=some a):lv (l.set k b)+pB k*a=lv l+pB k*b:=by
 induction l generalizing k with
 | nil=>simp at h
 | cons x r ih =>
  cases k with
  | zero =>
   simp at h;subst h;rw [List.set_cons_zero,fj,fj,mq];omega
  | succ k =>
   have:=ih (k:=k) (by simpa using h);rw [List.set_cons_succ,fj,fj,fD,Nat.mul_assoc,Nat.mul_assoc];omega
theorem A3_ (l:List Nat) (k:Nat):lv (l.take k)<=lv l:=by
 by_cases h:k<=l.length;·rw [gQ l k h];exact Nat.le_add_right _ _
 ·rw [List.take_of_length_le (by omega)];exact oz _
def bJ (l:List Nat):Prop:=aP l/\(∀ x,l[l.length-1]?=some x->x≠0)
theorem bJ.nil:bJ []:=⟨aP.nil,fun x h=>by simp at h⟩
theorem bJ.ge {l:List Nat} (h:bJ l) (hl:l≠[]):pB (l.length-1)<=lv l:=by
 have hp:0<l.length:=List.length_pos_iff.2 hl;obtain ⟨x,hx⟩:∃ x,l[l.length-1]?=some x:=⟨_,oc (by omega)⟩;have h0:=h.2 x hx;rw [gQ l (l.length-1) (by omega),fk hx];have h1:pB (l.length-1)*1<=pB (l.length-1)*(x+1000000000*lv (l.drop (l.length-1+1))):=Nat.mul_le_mul_left _ (by omega);omega
theorem bJ.zero {l:List Nat} (h:bJ l):lv l=0↔l=[]:=by
 constructor
 ·intro h0
  false_or_by_contra
  rename_i hn;have h1:=h.ge hn;have h2:=lk (l.length-1);omega
 ·rintro rfl;rfl
theorem bJ.lt_of_length {a b:List Nat} (ha:aP a) (hb:bJ b) (h:a.length<b.length):lv a<lv b:=by
 have h1:=fB ha;have h2:=hb.ge (by rintro rfl;simp at h);have h3:pB a.length<=pB (b.length-1):=u9_ (by omega);omega
theorem bJ.length_le {a b:List Nat} (ha:bJ a) (hb:bJ b) (h:lv a<=lv b):a.length<=b.length:=by
 false_or_by_contra
 rename_i hn;have:=bJ.lt_of_length hb.1 ha (by omega);omega
theorem Z5B {a b:List Nat} {k x y:Nat} (ha:aP a) (hb:aP b) (hx:a[k]?=some x) (hy:b[k]?=some y) (he:a.drop (k+1)=b.drop (k+1)) (h:x<y):lv a<lv b:=by
 have ka:=(od.1 hx).1;have kb:=(od.1 hy).1;rw [gQ a k (by omega),gQ b k (by omega),fk hx,fk hy,he];have h1:=fB (ha.take k);rw [om,Nat.min_eq_left (by omega)] at h1;have h2:pB k*(x+1000000000*lv (b.drop (k+1))+1)<=pB k*(y+1000000000*lv (b.drop (k+1))):=Nat.mul_le_mul_left _ (by omega);rw [Nat.mul_add,Nat.mul_one] at h2;omega
theorem Z1B {p q P n c b x y qk P':Nat} {old:Nat}
  (hk:P'=1000000000*P) (inv:p+n*q=old+(c+b)*P)
  (c' b' p2 q2:Nat) (hc:c'=c+n*qk) (hy:y+c'%1000000000+b=x+b'*1000000000)
  (hp:p2+P*x=p+P*y) (hq:n*q2=n*q+P*(n*qk)) :
  p2+n*q2=old+(c' / 1000000000+b')*P':=by
 have e:=Nat.div_add_mod c' 1000000000;generalize c' / 1000000000=d at *
 generalize c'%1000000000=m at *
 subst hk;have h1:P*(y+m+b)=P*(x+b'*1000000000):=by rw [hy]
 have h2:P*(1000000000*d+m)=P*(c+n*qk):=by rw [e,hc]
 grind
theorem T0_ {p P P' c x y ab old acc acc2 p2 c':Nat} (hP:P'=1000000000*P) (inv:p+c*P=old+acc) (hc:c'=c+x+ab) (hy:y=c'%1000000000)
  (hp:p2+P*x=p+P*y) (GJ:acc2=acc+P*ab):p2+(c' / 1000000000)*P'=old+acc2:=by
 have e:=Nat.div_add_mod c' 1000000000;generalize c' / 1000000000=d at *
 generalize c'%1000000000=m at *
 subst hP hy GJ;have h2:P*(1000000000*d+y)=P*(c+x+ab):=by rw [e,hc]
 grind
theorem d0_ {D D' Q n rest x:Nat} (inv:D'=n*Q+rest) (hD:D=x+1000000000*D') (hn:0<n) :
  D=n*((rest*1000000000+x) / n+1000000000*Q)+(rest*1000000000+x)%n:=by
 have e:=Nat.div_add_mod (rest*1000000000+x) n;generalize (rest*1000000000+x) / n=d at *
 generalize (rest*1000000000+x)%n=m at *
 subst hD inv;grind
theorem Z0f {n rest x:Nat} (hr:rest<n) (hx:x<1000000000):(rest*1000000000+x) / n<1000000000:=by
 rw [Nat.div_lt_iff_lt_mul (by omega)];have:(rest+1)*1000000000<=n*1000000000:=Nat.mul_le_mul_right _ hr;omega
section
variable {W bv L t s bl high a2 wl:Nat}
theorem Z4D {g:Nat} (hb:bv=(t*1000000000+s)*L+bl) (hw:W=(high*1000000000+a2)*L+wl) (ha2:a2<1000000000) (hwl:wl<L) (ht:0<t) (hg:g=high / t):W / bv<=g:=by
 subst hg;rw [Nat.le_div_iff_mul_le ht];have h1:W / bv*bv<=W:=Nat.div_mul_le_self W bv;generalize W / bv=q at *
 false_or_by_contra
 rename_i hn;have h2:high+1<=q*t:=by omega
 have hL:0<L:=by omega
 have h3:(high+1)*(1000000000*L)<=q*t*(1000000000*L):=Nat.mul_le_mul_right _ h2;have h4:(a2+1)*L<=1000000000*L:=Nat.mul_le_mul_right _ (by omega);have h5:q*bv=q*t*(1000000000*L)+q*(s*L)+q*bl:=by subst hb;grind
 have h6:(high*1000000000+a2)*L=high*(1000000000*L)+a2*L:=by grind
 rw [Nat.add_mul,Nat.one_mul] at h3 h4;omega
theorem Z0Q {g rest:Nat} (hb:bv=(t*1000000000+s)*L+bl) (hw:W=(high*1000000000+a2)*L+wl) (hwl:wl<L) (hbv:0<bv) (hW:W<1000000000*bv)
  (hg:W / bv<=g) (hr:g*t+rest=high) (h:1000000000<=g\/rest*1000000000+a2<g*s):W / bv<=g-1/\0<g:=by
 have h1:W / bv<1000000000:=by rw [Nat.div_lt_iff_lt_mul hbv];exact hW
 rcases h with h | h;·omega
 ·have BY:0<g:=by
   rcases Nat.eq_zero_or_pos g with h0 | h0;·rw [h0,Nat.zero_mul] at h;omega
   ·exact h0
  refine ⟨?_,BY⟩;have:W / bv<g:=by
   rw [Nat.div_lt_iff_lt_mul hbv];have h2:(rest*1000000000+a2+1)*L<=g*s*L:=Nat.mul_le_mul_right _ h;have h3:g*bv=g*t*(1000000000*L)+g*s*L+g*bl:=(by subst hb;grind);have h4:W=g*t*(1000000000*L)+(rest*1000000000+a2)*L+wl:=(by subst hw hr;grind);rw [Nat.add_mul,Nat.one_mul] at h2;omega
  omega
theorem Z2x {g rest:Nat} (hb:bv=(t*1000000000+s)*L+bl) (hw:W=(high*1000000000+a2)*L+wl) (sO:bl<L) (ht:0<t) (hs:s<1000000000)
  (hr:g*t+rest=high) (hg:g<1000000000) (h:1000000000<=rest\/g*s<=rest*1000000000+a2):g<=W / bv+1:=by
 have hbv:0<bv:=by
  have:1*L<=(t*1000000000+s)*L:=Nat.mul_le_mul_right _ (by omega);omega
 have h0:W<(W / bv+1)*bv:=by
  have:=Nat.lt_mul_div_succ W hbv;rw [Nat.mul_comm];exact this
 generalize W / bv=q at *
 false_or_by_contra
 rename_i hn;have h1:(q+1+1)*bv<=g*bv:=Nat.mul_le_mul_right _ (by omega);have h2:g*bv=g*t*(1000000000*L)+g*s*L+g*bl:=by subst hb;grind
 have h3:W=g*t*(1000000000*L)+(rest*1000000000+a2)*L+wl:=by subst hw hr;grind
 have h4:(q+1+1)*bv=(q+1)*bv+bv:=by rw [Nat.add_mul (q+1),Nat.one_mul]
 have h5:1000000000*L<=bv:=by
  have:1*(1000000000*L)<=t*(1000000000*L):=Nat.mul_le_mul_right _ ht;have e:(t*1000000000+s)*L=t*(1000000000*L)+s*L:=by grind
  omega
 have h6:g*bl<=g*L:=Nat.mul_le_mul_left _ (by omega);have h7:(g+1)*L<=1000000000*L:=Nat.mul_le_mul_right _ hg;rw [Nat.add_mul,Nat.one_mul] at h7;rcases h with h | h
 ·have h8:1000000000*(1000000000*L)<=(rest*1000000000+a2)*L:=by
   have:(1000000000*1000000000)*L<=(rest*1000000000+a2)*L:=Nat.mul_le_mul_right _ (by omega);grind
  have h9:g*s*L<=1000000000*(1000000000*L):=by
   have:g*s<=1000000000*1000000000:=Nat.mul_le_mul (by omega) (by omega);have:=Nat.mul_le_mul_right L this;grind
  omega
 ·have h8:g*s*L<=(rest*1000000000+a2)*L:=Nat.mul_le_mul_right _ h;omega
end
structure jD (p q:List Nat) (n i:Nat) (p':List Nat) (b:Nat):Prop where
 len:p'.length=p.length
 pcs:aP p'
 low:p'.take i=p.take i
 high:p'.drop (i+q.length+1)=p.drop (i+q.length+1)
 val:lv p'+n*(pB i*lv q)=lv p+b*pB (i+q.length+1)
 le:b<=1
structure ku (p q:List Nat) (i:Nat) (p':List Nat) (c:Nat):Prop where
 len:p'.length=p.length
 pcs:aP p'
 low:p'.take i=p.take i
 high:p'.drop (i+q.length+1)=p.drop (i+q.length+1)
 val:lv p'+c*pB (i+q.length+1)=lv p+pB i*lv q
theorem o3_ {A:List Nat} {i n bv:Nat} (h:lv (A.drop (i+1))<bv) (hb:bv<pB n):lv (A.drop (i+n+1))=0:=by
 by_cases hl:n<=(A.drop (i+1)).length
 ·have:=gQ (A.drop (i+1)) n hl;rw [List.drop_drop] at this;rw [show i+n+1=i+1+n by omega];generalize lv (A.drop (i+1+n))=z at *
  cases z with
  | zero=>rfl
  | succ z=>rw [Nat.mul_succ] at this;omega
 ·rw [List.length_drop] at hl;rw [List.drop_eq_nil_of_le (by omega)];rfl
theorem u0_ {A A':List Nat} {i:Nat} (h:A'.take i=A.take i) (hl:A'.length=A.length) (hi:i<=A.length):lv A'+pB i*lv (A.drop i)=lv A+pB i*lv (A'.drop i):=by
 rw [gQ A i hi,gQ A' i (by omega),h];omega
theorem Z6K {b:List Nat} {m t s:Nat} (hl:b.length=m+2) (ht:b[m+1]?=some t) (hs:b[m]?=some s):lv b=(t*1000000000+s)*pB m+lv (b.take m):=by
 rw [gQ b m (by omega),fk hs,fk ht,List.drop_eq_nil_of_le (by omega)];rw [eJ];grind
theorem Z41 {A:List Nat} {m i a0 a1 a2:Nat} (h0:A[i+m+2]?=some a0) (h1:A[i+m+1]?=some a1) (h2:A[i+m]?=some a2) (hz:lv (A.drop (i+m+3))=0) :
  lv (A.drop i)=((a0*1000000000+a1)*1000000000+a2)*pB m+lv ((A.drop i).take m):=by
 have hl:=(od.1 h0).1;rw [gQ (A.drop i) m (by rw [List.length_drop];omega),List.drop_drop,fk h2,fk h1,fk h0,hz];grind
theorem Z6V {A A' b:List Nat} {V bv g i X n:Nat} (hT:jD A b g i A' 0) (hn:b.length=n) (hbv:lv b=bv) (sJ:0<bv) (hi:i<=A.length)
  (inv:lv A+bv*(pB (i+1)*X)=V) (hg:lv (A.drop i) / bv<=g) :
  lv (A'.drop i)<bv/\lv A'+bv*(pB i*(g+1000000000*X))=V:=by
 have h1:=hT.val;have h2:=u0_ hT.low hT.len hi;rw [hbv,Nat.zero_mul,Nat.add_zero] at h1;rw [fD] at inv;have hP:=lk i;have h3:pB i*(lv (A'.drop i)+g*bv)=pB i*lv (A.drop i):=by
  rw [Nat.mul_add];have:g*(pB i*bv)=pB i*(g*bv):=by grind
  omega
 have h4:=Nat.eq_of_mul_eq_mul_left hP h3;refine ⟨?_,?_⟩
 ·have h5:=Nat.lt_mul_div_succ (lv (A.drop i)) sJ;have h6:bv*(lv (A.drop i) / bv)<=bv*g:=Nat.mul_le_mul_left _ hg;rw [Nat.mul_succ] at h5;have:g*bv=bv*g:=Nat.mul_comm _ _;omega
 ·have:bv*(pB i*(g+1000000000*X))=g*(pB i*bv)+bv*(1000000000*pB i*X):=by grind
  omega
theorem Z4p {A A' A'' b:List Nat} {V bv g i X n c:Nat} (hT:jD A b g i A' 1) (hB:ku A' b i A'' c) (hn:b.length=n) (hbv:lv b=bv) (sJ:0<bv) (yy:bv<pB n) (hi:i+n+1<=A.length)
  (hA1:lv (A.drop (i+1))<bv) (inv:lv A+bv*(pB (i+1)*X)=V) (hg:g<=lv (A.drop i) / bv+1) :
  0<g/\lv (A''.drop i)<bv/\lv A''+bv*(pB i*(g-1+1000000000*X))=V:=by
 have h1:=hT.val;have h2:=u0_ hT.low hT.len (by omega);have h3:=hB.val;have h4:=u0_ (hB.low.trans hT.low) (hB.len.trans hT.len) (by omega);have hz:=o3_ hA1 yy;have hz1:=hT.high;have hz2:=hB.high;rw [hn] at hz1 hz2 h1 h3;have u1:lv (A'.drop i)<pB (n+1):=by
  have:=gQ (A'.drop i) (n+1) (by rw [List.length_drop,hT.len];omega);rw [List.drop_drop,show i+(n+1)=i+n+1 by omega,hz1,hz,Nat.mul_zero,Nat.add_zero] at this;rw [this];have hl:=fB ((hT.pcs.drop i).take (n+1));rw [om,List.length_drop,hT.len,Nat.min_eq_left (by omega)] at hl;exact hl
 have u2:lv (A''.drop i)<pB (n+1):=by
  have:=gQ (A''.drop i) (n+1) (by rw [List.length_drop,hB.len,hT.len];omega);rw [List.drop_drop,show i+(n+1)=i+n+1 by omega,hz2,hz1,hz,Nat.mul_zero,Nat.add_zero] at this;rw [this];have hl:=fB ((hB.pcs.drop i).take (n+1));rw [om,List.length_drop,hB.len,hT.len,Nat.min_eq_left (by omega)] at hl;exact hl
 have hP:=lk i;rw [hbv] at h1 h3;rw [show i+n+1=i+(n+1) by omega,lj] at h1 h3;rw [fD] at inv;have e1:lv (A'.drop i)+g*bv=lv (A.drop i)+pB (n+1):=by
  refine Nat.eq_of_mul_eq_mul_left hP ?_;rw [Nat.mul_add,Nat.mul_add];have:g*(pB i*bv)=pB i*(g*bv):=by grind
  omega
 have e2:lv (A''.drop i)+c*pB (n+1)=lv (A'.drop i)+bv:=by
  refine Nat.eq_of_mul_eq_mul_left hP ?_;rw [Nat.mul_add,Nat.mul_add];have:c*(pB i*pB (n+1))=pB i*(c*pB (n+1)):=by grind
  omega
 have h5:=Nat.div_add_mod (lv (A.drop i)) bv;have h6:=Nat.mod_lt (lv (A.drop i)) sJ;generalize lv (A.drop i) / bv=q at *
 generalize lv (A.drop i)%bv=r at *
 have Nr:bv<pB (n+1):=by rw [fD];omega
 have qR:g=q+1:=by
  false_or_by_contra
  rename_i hne;have:g*bv<=q*bv:=Nat.mul_le_mul_right _ (by omega);rw [Nat.mul_comm q bv] at this;omega
 subst qR;rw [Nat.add_mul,Nat.one_mul,Nat.mul_comm q bv] at e1;have hc:c=1:=by
  match c with
  | 0=>omega
  | 1=>rfl
  | c+2 =>
   exfalso;have:(c+2)*pB (n+1)=c*pB (n+1)+2*pB (n+1):=Nat.add_mul _ _ _;omega
 subst hc;refine ⟨by omega,by omega,?_⟩;rw [Nat.add_sub_cancel];have:bv*(pB i*(q+1000000000*X))=q*(pB i*bv)+bv*(1000000000*pB i*X):=by grind
 have:(q+1)*(pB i*bv)=q*(pB i*bv)+pB i*bv:=by rw [Nat.add_mul,Nat.one_mul]
 omega
theorem Z63 {u v f V bv R Q:Nat} (hV:V=u*f) (hbv:bv=v*f) (hv:0<v) (hf:0<f) (h:R+bv*Q=V) (hR:R<bv):Q=u / v/\R=(u%v)*f:=by
 subst hV hbv;have Kk:0<v*f:=Nat.mul_pos hv hf;have e1:Q=u*f / (v*f):=by
  rw [<- h,Nat.add_mul_div_left _ _ Kk,Nat.div_eq_of_lt hR,Nat.zero_add]
 have e2:R=u*f%(v*f):=by
  rw [<- h,Nat.add_mul_mod_self_left,Nat.mod_eq_of_lt hR]
 rw [Nat.mul_div_mul_right _ _ hf] at e1;rw [Nat.mul_mod_mul_right] at e2;exact ⟨e1,e2⟩
theorem V8_ (u k:Nat) (h:u<10^k) (hk:1<=k):Lib.nDigits u<=k:=by
 false_or_by_contra
 rename_i hn;have h0:u≠0:=by
  intro e;subst e;rw [Lib.nDigits_small (by omega)] at hn;omega
 have h1:=A7_ u (by omega);have h2:10^k<=10^(Lib.nDigits u-1):=Nat.pow_le_pow_right (by omega) (by omega);exact absurd (ov h (ow h2 h1)) (Nat.lt_irrefl u)
def dv:List UInt8->Nat
 | []=>0
 | c::r=>(c.toNat-48)+10*dv r
theorem w7_ (c:UInt8) (r:List UInt8):dv (c::r)=(c.toNat-48)+10*dv r:=rfl
theorem Z2f (a b:List UInt8):dv (a++b)=dv a+10^a.length*dv b:=by
 induction a with
 | nil=>rw [List.nil_append,List.length_nil,Nat.pow_zero,Nat.one_mul];show _=0+_;omega
 | cons x r ih=>rw [List.cons_append,w7_,w7_,ih,List.length_cons,Nat.pow_succ];grind
theorem p2_ (l:List UInt8):bB 0 l.reverse=dv l:=by
 induction l with
 | nil=>rfl
 | cons c r ih=>rw [List.reverse_cons,nf,ih,gM,jj,w7_];omega
theorem Z17 {l:List UInt8} (h:l.all cI=true) (hne:l≠[]) (hh:l.head?≠some 48\/l.length=1):l=Lib.decDigits (bB 0 l):=by
 have hp:0<l.length:=List.length_pos_iff.2 hne;have h1:=w4_ l 0 h;rw [Nat.zero_add,Nat.one_mul] at h1;have h2:=V8_ _ _ h1 hp;have h3:l.length=Lib.nDigits (bB 0 l):=by
  rcases hh with hh | hh
  ·cases l with
   | nil=>exact absurd rfl hne
   | cons c r =>
    rw [List.all_cons,Bool.and_eq_true] at h;have hc:48<=c.toNat/\c.toNat<=57:=of_decide_eq_true h.1;have y9:49<=c.toNat:=by
     false_or_by_contra
     rename_i hn;have:c.toNat=(48:UInt8).toNat:=by show c.toNat=48;omega
     exact hh (by rw [UInt8.toNat_inj.1 this];rfl)
    have h4:=Z26 r (0*10+(c.toNat-48));rw [<- gM] at h4;have h5:1*10^r.length<=(0*10+(c.toNat-48))*10^r.length:=Nat.mul_le_mul_right _ (by omega);have h6:=Lib.lt_pow_nDigits (bB 0 (c::r));rw [List.length_cons] at h2 |-;have h7:10^r.length<10^Lib.nDigits (bB 0 (c::r)):=(by omega);have h8:=(Nat.pow_lt_pow_iff_right (a:=10) (by omega)).1 h7;omega
  ·have:=Lib.nDigits_pos (bB 0 l);omega
 refine ((U7_ l (Lib.decDigits (bB 0 l)) h (mV _) ?_).2).2 (jk _).symm;rw [Lib.decDigits_length];exact h3
theorem Z5D (k:Nat):pB k=10^(9*k):=by
 induction k with
 | zero=>rfl
 | succ k ih =>
  rw [fD,ih,show 9*(k+1)=9*k+9 by omega,Nat.pow_add,Nat.mul_comm]
theorem Z1D {out:List UInt8} {n S:Nat} {c:UInt8} (hc:c.toNat=48+n%10) (inv:dv out+10^out.length*n=S) :
  dv (out++[c])+10^(out++[c]).length*(n / 10)=S:=by
 have e:=Nat.div_add_mod n 10;rw [Z2f,pG,w7_];show dv out+10^out.length*(c.toNat-48+10*0)+10^(out.length+1)*(n / 10)=S;rw [hc,Nat.pow_succ];generalize n / 10=d at *
 generalize n%10=m at *
 have:48+m-48+10*0=m:=by omega
 rw [this,<- inv,<- e];grind
theorem Z25 {l:List UInt8} {e k S:Nat} (he:e<=l.length) (hk:l.length-e=9*k) (f:Nat) (hf:f<=e) (inv:S=bB 0 (l.drop e)) :
  S+pB k*bB 0 ((l.take e).drop f)=bB 0 (l.drop f):=by
 have h1:l.drop f=(l.take e).drop f++l.drop e:=by
  rw [<- List.drop_append_of_le_length (by rw [om];omega),List.take_append_drop]
 rw [h1,nf,w3_ (l.drop e) (bB 0 _),inv,Z5D,List.length_drop,hk,Nat.mul_comm,Nat.add_comm]
theorem Z0d {l:List UInt8} (h:l.all cI=true) (hl:l.length<=9):bB 0 l<1000000000:=by
 have h1:=w4_ l 0 h;rw [Nat.zero_add,Nat.one_mul] at h1;have h2:10^l.length<=10^9:=Nat.pow_le_pow_right (by omega) hl;rw [show (10:Nat)^9=1000000000 by decide] at h2;omega
theorem Z1O {l:List UInt8} (h:l.all cI=true) (e f:Nat):((l.take e).drop f).all cI=true:=by
 rw [List.all_eq_true] at h |-;exact fun x hx=>h x (List.mem_of_mem_take (List.mem_of_mem_drop hx))
def cR (u v:Nat):Int:=if u<v then -1 else if u=v then 0 else 1
theorem w2_ {u v:Nat} (h:u<v):cR u v=-1:=by unfold cR;rw [if_pos h]
theorem Z1Y {u v:Nat} (h:v<u):cR u v=1:=by unfold cR;rw [if_neg (by omega),if_neg (by omega)]
theorem Z5V {u v:Nat} (h:u=v):cR u v=0:=by unfold cR;rw [if_neg (by omega),if_pos h]
theorem jQ {u v:Nat} (h:u<=v):(aE u).size<=(aE v).size:=by
 rw [fC,fC]
 false_or_by_contra
 rename_i hn;have:=P3_ (u:=v) (v:=u) (by omega);omega
theorem W5_ (u v:Nat):(aE (u+v)).size<=max (aE u).size (aE v).size+1:=by
 rw [fC,fC,fC];have h1:=Lib.lt_pow_nDigits u;have h2:=Lib.lt_pow_nDigits v;have h3:10^Lib.nDigits u<=10^max (Lib.nDigits u) (Lib.nDigits v):=Nat.pow_le_pow_right (by omega) (by omega);have h4:10^Lib.nDigits v<=10^max (Lib.nDigits u) (Lib.nDigits v):=Nat.pow_le_pow_right (by omega) (by omega);refine V8_ _ _ ?_ (by omega);rw [Nat.pow_succ];omega
theorem oG (u v:Nat):(aE (u*v)).size<=(aE u).size+(aE v).size:=by
 rw [fC,fC,fC];have h1:=Lib.lt_pow_nDigits u;have h2:=Lib.lt_pow_nDigits v;have h3:=Lib.nDigits_pos u;refine V8_ _ _ ?_ (by omega);rw [Nat.pow_add];exact Nat.mul_lt_mul'' h1 h2
end Go.Proofs.YtoonaddcfakamaaGreatDoor
