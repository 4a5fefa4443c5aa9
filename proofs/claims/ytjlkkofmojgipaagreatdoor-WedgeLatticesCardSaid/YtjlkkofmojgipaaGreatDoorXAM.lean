import Derived.Test.YtjlkkofmojgipaaGreatDoorXAL
import Derived.Test.YtjlkkofmojgipaaGreatDoorXAE
import Derived.Deep.CutRange
import Derived.Deep.RegionWith
import Derived.Test.YtjlkkofmojgipaaGreatDoorXAF
set_option linter.unusedVariables false
set_option linter.unusedSimpArgs false
set_option maxRecDepth 1000000
set_option maxHeartbeats 4000000
namespace Go.Proofs.YtjlkkofmojgipaaGreatDoor
open Go.RowKit Go.Proofs.Tryz
theorem gH {m:List (List Int)} {i:Nat} (hi:i<m.length):m[i]?=some (aG m i):=by
 unfold aG;rw [oC,n9 hi];rfl
theorem gj {m:List (List Int)} {i:Nat} {r:List Int} (h:m[i]?=some r):aG m i=r:=by
 unfold aG;rw [oC,h];rfl
theorem fY {m:List (List Int)} {i j:Nat} {r:List Int} (hi:i<m.length):aG (m.set i r) j=if j=i then r else aG m j:=by
 unfold aG;rw [oC,oC,oV];by_cases h:i=j
 ·subst h;rw [if_pos rfl,if_pos rfl,if_pos hi];rfl
 ·rw [if_neg h,if_neg (fun e=>h e.symm)]
theorem kd {α:Type} (l:List α) (i j:Nat):(bR l i j).length=l.length:=by
 unfold bR;split <;> simp
theorem nw {α:Type} {l:List α} {i j:Nat} {a b:α} (hi:l[i]?=some a) (hj:l[j]?=some b):bR l i j=(l.set i b).set j a:=by
 unfold bR;rw [hi,hj]
theorem H7_ {α:Type} (l:List α) (i j:Nat) (x:α) (h:x∈bR l i j):x∈l:=by
 unfold bR at h;cases hi:l[i]? with
 | none=>rw [hi] at h;exact h
 | some a =>
  cases hj:l[j]? with
  | none=>rw [hi,hj] at h;exact h
  | some b =>
   rw [hi,hj] at h;rcases List.mem_or_eq_of_mem_set h with h | h
   ·rcases List.mem_or_eq_of_mem_set h with h | h
    ·exact h
    ·rw [h];exact oD hj
   ·rw [h];exact oD hi
theorem Z2W {α β:Type} (f:α->β) (l:List α) (i j:Nat):(bR l i j).map f=bR (l.map f) i j:=by
 unfold bR;rw [oE,oE];cases l[i]? with
 | none=>rfl
 | some a=>cases l[j]? with
  | none=>rfl
  | some b=>simp [List.map_set]
theorem d1_ {n:Nat} {m:List (List Int)} (h:cF n m=true) (i j:Nat):cF n (bR m i j)=true:=by
 unfold cF at h |-;rw [List.all_eq_true] at h |-;exact fun x hx=>h x (H7_ m i j x hx)
theorem kR {n:Nat} {m:List (List Int)} (h:cF n m=true) (i:Nat) (hi:i<m.length):(aG m i).length=n/\(aG m i).all eu=true:=by
 unfold cF at h;have:=List.all_eq_true.1 h (aG m i) (oD (gH hi));rw [Bool.and_eq_true,decide_eq_true_iff] at this;exact this
theorem r6_ {k:Int} {r s r':List Int} (h:fR k r s=some r'):r'.length=r.length:=by
 unfold fR at h
 split at h
 ·rw [<- oL h]
 ·split at h
  ·rw [<- oL h];exact ir k r s
  ·cases h
theorem E7_ (c d:Nat) (m:List (List Int)) (j:Nat):dA c d m (j+1)=match dA c d m j with
  | none=>none
  | some (m',rest) =>
   if aF m' d c=0 then none
   else match fR (aR (aF m' (d+1+j) c) (aF m' d c)) (aG m' (d+1+j)) (aG m' d) with
    | none=>none
    | some r=>some (m'.set (d+1+j) r,rest || decide (bF (aF m' (d+1+j) c) (aF m' d c)≠0)):=rfl
theorem W9_ {c d j:Nat} {m:List (List Int)} {y:List (List Int)×Bool} (h:dA c d m (j+1)=some y) :
  ∃ m' rest r,dA c d m j=some (m',rest)/\aF m' d c≠0/\fR (aR (aF m' (d+1+j) c) (aF m' d c)) (aG m' (d+1+j)) (aG m' d)=some r/\y=(m'.set (d+1+j) r,rest || decide (bF (aF m' (d+1+j) c) (aF m' d c)≠0)):=by
 rw [E7_] at h;cases hd:dA c d m j with
 | none=>rw [hd] at h;cases h
 | some p =>
  obtain ⟨m',rest⟩:=p;rw [hd] at h;simp only at h;by_cases h0:aF m' d c=0
  ·rw [if_pos h0] at h;cases h
  ·rw [if_neg h0] at h;cases hl:fR (aR (aF m' (d+1+j) c) (aF m' d c)) (aG m' (d+1+j)) (aG m' d) with
   | none=>rw [hl] at h;cases h
   | some r =>
    rw [hl] at h;exact ⟨m',rest,r,rfl,h0,hl,(oL h).symm⟩
theorem Z02 {c d : Nat} {m : List (List Int)} {k : Nat} : ∀ {y}, dA c d m k = some y -> ∀ j, j <= k -> ∃ z, dA c d m j = some z := by
  induction k with
  | zero => intro y h j hj; obtain rfl : j = 0 := by omega
            exact ⟨y, h⟩
  | succ k ih =>
    intro y h j hj;by_cases he : j = k + 1
    · subst he; exact ⟨y, h⟩
    · obtain ⟨m', rest, r, h1, -⟩ := W9_ h
      exact ih h1 j (by omega)
theorem ky {c d:Nat} {m:List (List Int)} {k:Nat}:∀ {m' rest},dA c d m k=some (m',rest)->d+1+k<=m.length->m'.length=m.length/\(∀ i,i<=d\/d+1+k<=i->aG m' i=aG m i)/\(∀ i,(aG m' i).length=(aG m i).length):=by
 induction k with
 | zero =>
  intro m' rest h hk;have h:some (m,false)=some (m',rest):=h;simp only [Option.some.injEq,Prod.mk.injEq] at h;obtain ⟨rfl,-⟩:=h;exact ⟨rfl,fun _ _=>rfl,fun _=>rfl⟩
 | succ k ih =>
  intro m' rest h hk;obtain ⟨m1,r1,r,h1,h2,h3,h4⟩:=W9_ h;obtain ⟨l1,l2,l3⟩:=ih h1 (by omega);simp only [Prod.mk.injEq] at h4;obtain ⟨rfl,-⟩:=h4;have hi:d+1+k<m1.length:=by omega
  refine ⟨by rw [List.length_set];exact l1,fun i hi2=>?_,fun i=>?_⟩
  ·rw [fY hi,if_neg (by omega)];exact l2 i (by omega)
  ·rw [fY hi];by_cases he:i=d+1+k
   ·rw [if_pos he,he,r6_ h3];exact l3 _
   ·rw [if_neg he];exact l3 i
theorem b1_ (c d:Nat) (m:List (List Int)) (j:Nat):ev c d m (j+1)=match ev c d m j with
  | none=>none
  | some m' =>
   if aF m' d c=0 then none
   else match fR (aR (aF m' j c) (aF m' d c)) (aG m' j) (aG m' d) with
    | none=>none
    | some r=>some (m'.set j r):=rfl
theorem L6_ {c d j:Nat} {m:List (List Int)} {y:List (List Int)} (h:ev c d m (j+1)=some y) :
  ∃ m' r,ev c d m j=some m'/\aF m' d c≠0/\fR (aR (aF m' j c) (aF m' d c)) (aG m' j) (aG m' d)=some r/\y=m'.set j r:=by
 rw [b1_] at h;cases hd:ev c d m j with
 | none=>rw [hd] at h;cases h
 | some m' =>
  rw [hd] at h;simp only at h;by_cases h0:aF m' d c=0
  ·rw [if_pos h0] at h;cases h
  ·rw [if_neg h0] at h;cases hl:fR (aR (aF m' j c) (aF m' d c)) (aG m' j) (aG m' d) with
   | none=>rw [hl] at h;cases h
   | some r =>
    rw [hl] at h;exact ⟨m',r,rfl,h0,hl,(oL h).symm⟩
theorem Z4H {c d : Nat} {m : List (List Int)} {k : Nat} : ∀ {y}, ev c d m k = some y -> ∀ j, j <= k -> ∃ z, ev c d m j = some z := by
  induction k with
  | zero => intro y h j hj; obtain rfl : j = 0 := by omega
            exact ⟨y, h⟩
  | succ k ih =>
    intro y h j hj;by_cases he : j = k + 1
    · subst he; exact ⟨y, h⟩
    · obtain ⟨m', r, h1, -⟩ := L6_ h
      exact ih h1 j (by omega)
theorem v4_ {c d:Nat} {m:List (List Int)} {k:Nat}:∀ {m'},ev c d m k=some m'->k<=d->d<m.length->m'.length=m.length/\(∀ i,k<=i->aG m' i=aG m i)/\(∀ i,(aG m' i).length=(aG m i).length):=by
 induction k with
 | zero =>
  intro m' h hk hd;have h:some m=some m':=h;obtain rfl:=oL h;exact ⟨rfl,fun _ _=>rfl,fun _=>rfl⟩
 | succ k ih =>
  intro m' h hk hd;obtain ⟨m1,r,h1,h2,h3,rfl⟩:=L6_ h;obtain ⟨l1,l2,l3⟩:=ih h1 (by omega) hd;have hi:k<m1.length:=by omega
  refine ⟨by rw [List.length_set];exact l1,fun i hi2=>?_,fun i=>?_⟩
  ·rw [fY hi,if_neg (by omega)];exact l2 i (by omega)
  ·rw [fY hi];by_cases he:i=k
   ·rw [if_pos he,he,r6_ h3];exact l3 _
   ·rw [if_neg he];exact l3 i
theorem Z0N {α:Type} [DecidableEq α] (l:List α) (i j:Nat):(bR l i j).Perm l:=by
 cases hi:l[i]? with
 | none=>unfold bR;rw [hi]
 | some a =>
  cases hj:l[j]? with
  | none=>unfold bR;rw [hi,hj]
  | some b =>
   rw [nw hi hj,List.perm_iff_count];intro x;have h1:=(n_.1 hi);have h2:=(n_.1 hj);obtain ⟨l1,e1⟩:=h1;obtain ⟨l2,e2⟩:=h2;have G8:j<(l.set i b).length:=by rw [List.length_set];exact l2
   rw [List.count_set G8,List.count_set l1];by_cases qK:i=j
   ·subst qK;rw [List.getElem_set_self];rw [e1] at e2;subst e2;rw [e1];have:(if a == x then 1 else 0)<=l.count x:=by
     split
     ·rename_i hx;rw [<- beq_iff_eq.1 hx];exact List.count_pos_iff.2 (oD hi)
     ·exact Nat.zero_le _
    omega
   ·rw [List.getElem_set_ne qK,e1,e2];have k1:(if a == x then 1 else 0)<=l.count x:=by
     split
     ·rename_i hx;rw [<- beq_iff_eq.1 hx];exact List.count_pos_iff.2 (oD hi)
     ·exact Nat.zero_le _
    have k2:(if b == x then 1 else 0)<=l.count x:=by
     split
     ·rename_i hx;rw [<- beq_iff_eq.1 hx];exact List.count_pos_iff.2 (oD hj)
     ·exact Nat.zero_le _
    omega
theorem bh.swap {w:World} {g0:Nat} {tags:List (Nat×Nat×Nat)} {m:List (List Int)} (h:bh w g0 tags m) (d a:Nat) (hd:d<m.length) (ha:a<m.length) (td ta:Nat×Nat×Nat) (zw:tags[d]?=some td) (zx:tags[a]?=some ta) :
  bh ((w.setCell ⟨g0,d,none⟩ (.slice (some ⟨ta.1,ta.2.1,none⟩) (aG m a).length ta.2.2)).setCell ⟨g0,a,none⟩ (.slice (some ⟨td.1,td.2.1,none⟩) (aG m d).length td.2.2)) g0 (bR tags d a) (bR m d a):=by
 obtain ⟨td',FB,c1,c2,c3,c4,c5⟩:=h.get d hd;obtain rfl:td'=td:=oL (FB.symm.trans zw);obtain ⟨ta',FC,e1,e2,e3,e4,e5⟩:=h.get a ha;obtain rfl:ta'=ta:=oL (FC.symm.trans zx);have hmd:=gH hd;have hma:=gH ha;rw [nw zw zx,nw hmd hma];obtain ⟨w1,o4⟩:∃ w1,w1=(w.setCell ⟨g0,d,none⟩ (.slice (some ⟨ta'.1,ta'.2.1,none⟩) (aG m a).length ta'.2.2)).setCell ⟨g0,a,none⟩ (.slice (some ⟨td'.1,td'.2.1,none⟩) (aG m d).length td'.2.2):=⟨_,rfl⟩;have hsz:w1.heap.size=w.heap.size:=by rw [o4,nh,nh]
 have FY:∀ b,b≠g0->w1.heap[b]?=w.heap[b]?:=fun b hb=>by rw [o4,Z2_ _ _ _ _ _ hb,Z2_ _ _ _ _ _ hb]
 have yD:∀ j,w1.frozen? ⟨g0,j,none⟩=false:=fun j=>by rw [o4,Y1_,Y1_];exact h.free j
 have sV:w1.cell? ⟨g0,a,none⟩=some (.slice (some ⟨td'.1,td'.2.1,none⟩) (aG m d).length td'.2.2):=by
  rw [o4];by_cases yF:d=a
  ·subst yF;exact World.cell?_setCell_same _ _ _ (World.cell?_setCell_same w _ _ c1)
  ·exact World.cell?_setCell_same _ _ _ ((World.cell?_setCell_other w _ _ _ (by intro e;simp only [Addr.mk.injEq] at e;exact yF e.2.1)).trans e1)
 have sv:d≠a->w1.cell? ⟨g0,d,none⟩=some (.slice (some ⟨ta'.1,ta'.2.1,none⟩) (aG m a).length ta'.2.2):=fun yF=>by
  rw [o4,World.cell?_setCell_other _ _ _ _ (by intro e;simp only [Addr.mk.injEq] at e;exact yF e.2.1.symm)];exact World.cell?_setCell_same w _ _ c1
 have L0:∀ j,j≠d->j≠a->w1.cell? ⟨g0,j,none⟩=w.cell? ⟨g0,j,none⟩:=fun j Ec Fy=>by
  rw [o4,World.cell?_setCell_other _ _ _ _ (by intro e;simp only [Addr.mk.injEq] at e;exact Fy e.2.1.symm),World.cell?_setCell_other _ _ _ _ (by intro e;simp only [Addr.mk.injEq] at e;exact Ec e.2.1.symm)]
 rw [<- o4];clear o4;have hrow:∀ (t:Nat×Nat×Nat) r,t.1≠g0->bU w t.1 t.2.1 r->bU w1 t.1 t.2.1 r:=fun t r ht hr=>hr.same (by omega) (FY t.1 ht);refine ⟨by simp only [List.length_set];exact h.len,by rw [hsz];exact h.lt,yD,fun i t r ht hr=>?_,?_⟩
 ·have hlt:tags.length=m.length:=h.len;by_cases C0:i=a
  ·subst C0;rw [List.getElem?_set_self (by rw [List.length_set];omega)] at ht;rw [List.getElem?_set_self (by rw [List.length_set];omega)] at hr;obtain rfl:=oL ht;obtain rfl:=oL hr;exact ⟨sV,c2,c3,hrow _ _ c5 c4⟩
  ·rw [List.getElem?_set_ne (fun e=>C0 e.symm)] at ht hr;by_cases hid:i=d
   ·subst hid;rw [List.getElem?_set_self (by omega)] at ht;rw [List.getElem?_set_self (by omega)] at hr;obtain rfl:=oL ht;obtain rfl:=oL hr;exact ⟨sv C0,e2,e3,hrow _ _ e5 e4⟩
   ·rw [List.getElem?_set_ne (fun e=>hid e.symm)] at ht hr;obtain ⟨k1,k2,k3,k4⟩:=h.row i t r ht hr;have hne:t.1≠g0:=by
     intro e;exact (List.nodup_cons.1 h.nodup).1 (List.mem_map.2 ⟨t,oD ht,e⟩)
    exact ⟨(L0 i hid C0).trans k1,k2,k3,hrow _ _ hne k4⟩
 ·have hn:=List.nodup_cons.1 h.nodup;rw [List.nodup_cons];have hsw:((tags.set d ta').set a td').map (·.1)=bR (tags.map (·.1)) d a:=by
   rw [<- nw zw zx,Z2W]
  rw [hsw];refine ⟨fun hm=>hn.1 (H7_ _ _ _ _ hm),?_⟩;have hp:(bR (tags.map (·.1)) d a).Perm (tags.map (·.1)):=Z0N _ _ _;exact hp.nodup_iff.2 hn.2
def Sz (n:Int):Prop:=(aE n.natAbs).size<=1000000000
def Sz9 (n:Int):Prop:=(aE n.natAbs).size<=400000000
theorem j3 {n:Int} (h:eu n=true):Sz n:=(w5_ n).1 h
theorem Z4Y {n:Int} (h:j0 n=true):Sz9 n:=(c4_ n).1 h
theorem Sz.size {n:Int} (h:Sz n):(aD n).size<=1000000001:=by
 unfold Sz at h;have:=eK n;omega
theorem Sz9.size {n:Int} (h:Sz9 n):(aD n).size<=400000001:=by
 unfold Sz9 at h;have:=eK n;omega
theorem Sz.natAbs {n:Int} (h:Sz n):Sz (n.natAbs:Int):=by
 unfold Sz at h |-;rw [Int.natAbs_natCast];exact h
theorem Sz.neg {n:Int} (h:Sz n):Sz (-n):=by
 unfold Sz at h |-;rw [Int.natAbs_neg];exact h
theorem Z3Z (x y:Int):(aD (x*y)).size<=(aD x).size+(aD y).size+1:=by
 have h1:=eK (x*y);have h2:=d_ x;have h3:=d_ y;have h4:=nS x.natAbs y.natAbs;rw [Int.natAbs_mul] at h1;omega
theorem Z1h (x y:Int) (w:World) (hx:Sz x) (hy:Sz y) (h0:y≠0) (ht:af w) :
  oW 94 #[.string (aD x),.string (aD y)] w (.tuple #[.string (aD (aR x y)),.string (aD (bF x y)),.int .i64 0]) :=
 U4_ x y w (by have:=hx.size;omega) (by have:=hy.size;omega) h0 ht
theorem Z4v (x y:Int) (h:x.sign≠y.sign):(x.sign<y.sign↔x<y)/\x≠y:=by
 rcases Int.lt_trichotomy x 0 with hx | hx | hx <;> rcases Int.lt_trichotomy y 0 with hy | hy | hy
 all_goals first
  | (rw [Int.sign_eq_neg_one_of_neg hx] at h |-) | (rw [hx] at h |-;rw [show (0:Int).sign=0 from rfl] at h |-) | (rw [Int.sign_eq_one_of_pos hx] at h |-)
 all_goals first
  | (rw [Int.sign_eq_neg_one_of_neg hy] at h |-) | (rw [hy] at h |-;rw [show (0:Int).sign=0 from rfl] at h |-) | (rw [Int.sign_eq_one_of_pos hy] at h |-)
 all_goals first | (exact absurd rfl h) | omega
def gO (x y:Int):Int:=if x<y then -1 else if x=y then 0 else 1
theorem X3_ (n:Int) (hs:(aD n).size<=10000000000):(aE n.natAbs).size<=10000000000:=by
 by_cases h:n<0
 ·have:=jq n h;omega
 ·rw [dC n (by omega)] at hs;rw [show n.natAbs=n.toNat by omega];exact hs
theorem Z1b (x y:Int) (w:World) (hx:(aD x).size<=10000000000) (hy:(aD y).size<=10000000000) :
  Calls prog 151 #[.string (aD x),.string (aD y)] w fun e w'=>e=.returned (.int .i64 (gO x y))/\∃ k,w'=w.drewN k:=by
 have H1:=n8 (fun W=>ns x W);have H2:=n8 (fun W=>ns y W);have H3:=n8 (fun W=>w6_ x W);have H4:=n8 (fun W=>w6_ y W);have H5:=n8 (fun W=>Z4_ x.natAbs y.natAbs W (X3_ x hx) (X3_ y hy));have H6:=n8 (fun W=>Z4_ y.natAbs x.natAbs W (X3_ y hy) (X3_ x hx));by_cases hs:x.sign=y.sign
 ·obtain ⟨s,hsx⟩:∃ s,x.sign=s:=⟨_,rfl⟩;rw [hsx] at H1;rw [<- hs,hsx] at H2;by_cases hn:x<0
  ·have xy:y<0:=by
    rw [Int.sign_eq_neg_one_of_neg hn] at hs;exact Int.sign_eq_neg_one_iff_neg.1 hs.symm
   have HC:Hid (bj y.natAbs x.natAbs=gO x y):=by
    unfold Hid bj gO;rcases Int.lt_trichotomy x y with h | h | h
    ·rw [if_pos (by omega),if_pos h]
    ·rw [if_neg (by omega),if_pos (by omega),if_neg (by omega),if_pos h]
    ·rw [if_neg (by omega),if_neg (by omega),if_neg (by omega),if_neg (by omega)]
   rw [HC.out] at H6;have hb:decide (x<0)=true:=oS hn;have hb2:decide (y<0)=true:=oS xy;rw [hb] at H3;rw [hb2] at H4;have qn:(s != s)=false:=by simp
   clear hs hsx hn xy hb hb2 HC H5
   go_enter func151,ntmps151
   go_wp2_with fail;refine (H1 _).mono ?_;rintro e w' ⟨rfl,rfl⟩;clear H1;go_wp2_with fail;refine (H2 _).mono ?_;rintro e w' ⟨rfl,rfl⟩;clear H2;go_wp2_with fail;refine (H3 _).mono ?_;rintro e w1 ⟨rfl,k1,rfl⟩;clear H3;go_wp2_with fail;refine (H4 _).mono ?_;rintro e w2 ⟨rfl,k2,rfl⟩;clear H4;go_wp2_with fail;refine (H6 _).mono ?_;rintro e w' ⟨rfl,rfl⟩;clear H6;go_wp2_with fail;go_ret;exact ⟨rfl,_,rfl⟩
  ·have xy:¬ y<0:=by
    intro h;rw [Int.sign_eq_neg_one_of_neg h] at hs;exact hn (Int.sign_eq_neg_one_iff_neg.1 hs)
   have HC:Hid (bj x.natAbs y.natAbs=gO x y):=by
    unfold Hid bj gO;rcases Int.lt_trichotomy x y with h | h | h
    ·rw [if_pos (by omega),if_pos h]
    ·rw [if_neg (by omega),if_pos (by omega),if_neg (by omega),if_pos h]
    ·rw [if_neg (by omega),if_neg (by omega),if_neg (by omega),if_neg (by omega)]
   rw [HC.out] at H5;have hb:decide (x<0)=false:=oR hn;have hb2:decide (y<0)=false:=oR xy;rw [hb] at H3;rw [hb2] at H4;have qn:(s != s)=false:=by simp
   clear hs hsx hn xy hb hb2 HC H6
   go_enter func151,ntmps151
   go_wp2_with fail;refine (H1 _).mono ?_;rintro e w' ⟨rfl,rfl⟩;clear H1;go_wp2_with fail;refine (H2 _).mono ?_;rintro e w' ⟨rfl,rfl⟩;clear H2;go_wp2_with fail;refine (H3 _).mono ?_;rintro e w1 ⟨rfl,k1,rfl⟩;clear H3;go_wp2_with fail;refine (H4 _).mono ?_;rintro e w2 ⟨rfl,k2,rfl⟩;clear H4;go_wp2_with fail;refine (H5 _).mono ?_;rintro e w' ⟨rfl,rfl⟩;clear H5;go_wp2_with fail;go_ret;exact ⟨rfl,_,rfl⟩
 ·obtain ⟨pJ,pT⟩:=Z4v x y hs;obtain ⟨s,hsx⟩:∃ s,x.sign=s:=⟨_,rfl⟩;obtain ⟨t,Io⟩:∃ t,y.sign=t:=⟨_,rfl⟩;rw [hsx] at H1 hs pJ;rw [Io] at H2 hs pJ;have hst:(s != t)=true:=by simpa using hs
  clear H3 H4 H5 H6 hsx Io hs;by_cases hlt:s<t
  ·have HC:Hid (gO x y=-1):=by unfold Hid gO;rw [if_pos (pJ.1 hlt)]
   rw [HC.out];clear HC pJ pT
   go_enter func151,ntmps151
   go_wp2_with fail;refine (H1 _).mono ?_;rintro e w' ⟨rfl,rfl⟩;clear H1;go_wp2_with fail;refine (H2 _).mono ?_;rintro e w' ⟨rfl,rfl⟩;clear H2;go_wp2_with fail;go_ret;exact ⟨rfl,0,rfl⟩
  ·have HC:Hid (gO x y=1):=by unfold Hid gO;rw [if_neg (fun h=>hlt (pJ.2 h)),if_neg pT]
   rw [HC.out];clear HC pJ pT
   go_enter func151,ntmps151
   go_wp2_with fail;refine (H1 _).mono ?_;rintro e w' ⟨rfl,rfl⟩;clear H1;go_wp2_with fail;refine (H2 _).mono ?_;rintro e w' ⟨rfl,rfl⟩;clear H2;go_wp2_with fail;go_ret;exact ⟨rfl,0,rfl⟩
theorem af.below {w w':World} {base:Nat} (h:af w) (he:Below base w w') (hb:4<base):af w':=by
 unfold af Lib.TabIs at h |-;exact var?_below he (show prog.globalNamed "internal/strconv.uint64pow10" = some 4 by kernel_rfl) hb h
theorem aP.below {S:Nat->Prop} {w w':World} {base:Nat} (h:aP S w w') (hb:base<=w.heap.size) (hS:∀ k,S k->base<=k):Below base w w' :=
 ⟨h.os,h.tape,h.output,h.size,fun k hk=>h.block k (oH hk hb) (fun hs=>absurd (hS k hs) (by omega))⟩
theorem aP.setCell {S:Nat->Prop} {w w':World} (h:aP S w w') {g:Nat} (hg:S g) (i:Nat) (v:Value):aP S w (w'.setCell ⟨g,i,none⟩ v) :=
 h.trans (f_ (eJ w' g i v) (fun k hk=>by cases hk;exact hg))
theorem aP.ext {S:Nat->Prop} {a b c:World} (h:aP S a b) (he:aC b c):aP S a c:=h.trans (he.grownS S)
theorem r7_ (n:Nat):(madeCells #[Value.string ⟨#[]⟩] n).toList=List.replicate n (.string ⟨#[]⟩):=(toList_madeCells_one _ _).trans (by simp)
theorem k0_ {w:World} {B g n:Nat} {T:TypeId} {xs:List Value} (h:w.ownsRow B T 1 (.slice (some ⟨g,0,none⟩) n n) n xs):w.heap[g]?=some (.cells xs.toArray T (0,0))/\xs.length=n/\B<=g:=by
 obtain ⟨h0,h⟩:=h;rcases h with ⟨hv,_⟩ | ⟨g',cap',cur,hv,hb,hg,h1,h2,h3,h4⟩
 ·simp at hv
 ·simp only [Value.slice.injEq,Option.some.injEq,Addr.mk.injEq] at hv;obtain ⟨⟨rfl,-,-⟩,-,rfl⟩:=hv;rw [Nat.mul_one] at h0 h3 h4;rw [List.take_of_length_le (by simp [h3])] at h4;refine ⟨?_,h0,hb⟩;rw [hg,<- h4]
def iY (C:List Value) (n j:Nat) (xs:List Int):Prop:=C.length=n/\(∀ i,i<n->∃ s,C[i]?=some (.string s))/\∀ i x,i<j->xs[i]?=some x->C[i]?=some (.string (aD x))
theorem iY.start (n:Nat) (xs:List Int):iY (List.replicate n (.string ⟨#[]⟩)) n 0 xs:=⟨by simp,fun i hi=>⟨⟨#[]⟩,by rw [List.getElem?_replicate,if_pos hi]⟩,fun i x hi=>absurd hi (by omega)⟩
theorem iY.set {C:List Value} {n j:Nat} {xs:List Int} {x:Int} (h:iY C n j xs) (hj:j<n) (hx:xs[j]?=some x):iY (C.set j (.string (aD x))) n (j+1) xs:=by
 obtain ⟨h1,h2,h3⟩:=h;refine ⟨by rw [List.length_set];exact h1,fun i hi=>?_,fun i y hi hy=>?_⟩
 ·rw [oV];by_cases e:j=i
  ·subst e;rw [if_pos rfl,if_pos (by omega)];exact ⟨_,rfl⟩
  ·rw [if_neg e];exact h2 i hi
 ·rw [oV];by_cases e:j=i
  ·subst e;rw [if_pos rfl,if_pos (by omega)];rw [hx] at hy;cases hy;rfl
  ·rw [if_neg e];exact h3 i y (by omega) hy
theorem iY.row {w:World} {g:Nat} {C:List Value} {n:Nat} {xs:List Int} {T:TypeId} (h:iY C n n xs) (hl:xs.length=n) (hb:w.heap[g]?=some (.cells C.toArray T (0,0))):bU w g 0 xs :=
 ⟨dS hb,fun j x hx=>by
  rw [Nat.zero_add,aN hb j,oQ]
  exact h.2.2 j x (by rw [<- hl];exact (n_.1 hx).1) hx,fun j=>cD hb j⟩
theorem h2_ (C:List Value) (j:Nat) (x:Value):C.toArray.setIfInBounds j x=(C.set j x).toArray:=by simp
theorem N2_ (k:Int) (r s:List Int) (gx ox cx gy oy cy:Nat) (w:World) (hr:bU w gx ox r) (hs:bU w gy oy s) (hl:s.length=r.length) (hk:(aD k).size<=2800000000)
  (qo:∀ a∈r,(aD a).size<=2800000000) (qn:∀ b∈s,(aD b).size<=2800000000/\(aD (k*b)).size<=2800000000) (pG:r.length<=cx) (GM:cx<=maxLen) (tb:s.length<=cy) (GL:cy<=maxLen) (hlen:r.length<=1000000) (ht:af w) :
  Calls prog 137 #[.slice (some ⟨gx,ox,none⟩) r.length cx,.slice (some ⟨gy,oy,none⟩) s.length cy,.string (aD k)] w fun e w'=>e=.returned (.slice (some ⟨w.heap.size,0,none⟩) r.length r.length)/\aC w w'/\bU w' w.heap.size 0 (an k r s):=by
 obtain ⟨i0,hi,pH,hz1,hz2⟩:=info_parts ik;have HI:=n8 hi;have HZ0:=n8 pH;have HZ1:=n8 hz1;have HZ2:=n8 hz2;have HT:=n8 ht;have HR:=n8 hr;have HS:=n8 hs;have HRS:=n8 qo;have HSS:=n8 qn;have HKK:=n8 hk;have HLE:=n8 hl;obtain ⟨n,hn⟩:∃ n,r.length=n:=⟨_,rfl⟩;have HN:=n8 hn;rw [hl,hn] at tb;rw [hl];rw [hn] at pG hlen |-;unfold maxLen at GM GL;clear hi pH hz1 hz2 hr hs hl hk qo qn ht hn;obtain ⟨kk,vf⟩:∃ kk,aD k=kk:=⟨_,rfl⟩;rw [vf];have HKE:=n8 vf;clear vf
 go_enter func137,ntmps137
 go_wp2_with (at_make;refine wpList_make_full _ rfl _ _ 119 rfl w.heap.size 53 i0 (.string ⟨#[]⟩) 1 underlying119 HI HZ0 HZ1 _ _ _ _ n rfl rfl rfl rfl ?c1 ?c2 ?c3 ?_)
 case c1=>rw [HZ2.out];omega
 case c2=>unfold maxLen;omega
 case c3=>exact oJ _
 intro w1 hown oe;have HE1:=n8 (jm oe);have hmb:=k0_ hown
 (try rw [Nat.mul_one] at hmb)
 rw [r7_] at hmb;have HB1:=n8 hmb.1;clear hown oe hmb;go_wp2_with fail
 go_loopw [14] (fun t wr=>∃ j:Nat,j<=n/\t=.int .i64 j/\Hid (aC w wr)/\Hid (∃ C,wr.heap[w.heap.size]?=some (.cells C.toArray 53 (0,0))/\iY C n j (an k r s))) (fun t _=>n-(intOf t).toNat)
 case atStart=>exact ⟨0,by omega,rfl,HE1,_,HB1,iY.start n _⟩
 case round =>
  obtain ⟨j,hj,rfl,HX,HCC⟩:=hrel;by_cases hlt:j<n
  ·obtain ⟨b,DD⟩:∃ b,s[j]?=some b:=⟨s[j]'(by rw [HLE.out,HN.out];exact hlt),n9 _⟩;obtain ⟨a,yj⟩:∃ a,r[j]?=some a:=⟨r[j]'(by rw [HN.out];exact hlt),n9 _⟩;have z1:=HX.cell (HR.cell j a yj);have z2:=HX.cell (HS.cell j b DD);obtain ⟨C,o5,hST⟩:=HCC.out;have HBK:=n8 o5;have HST:=n8 hST;obtain ⟨v0,sF⟩:=hST.2.1 j hlt;have Mi:Hid (C.toArray[j]?=some (.string v0)):=by unfold Hid;rw [oQ];exact sF
   have HNX:Hid (iY (C.set j (.string (aD (a-k*b)))) n (j+1) (an k r s)):=hST.set hlt (S5_ k r s j a b yj DD);have HM:Hid (∀ W,aC wr W->oW 63 #[.string kk,.string (aD b)] W (.string (aD (k*b)))):=fun W hW=>by
    rw [<- HKE.out];exact ju k b W (by have:=HKK.out;omega) (by have:=(HSS b (oD DD)).1;omega) (HT.ext (HX.trans hW))
   have HU:Hid (∀ W,aC wr W->oW 185 #[.string (aD a),.string (aD (k*b))] W (.string (aD (a-k*b)))):=fun W hW =>
    Z4A a (k*b) W (HRS a (oD yj)) (HSS b (oD DD)).2 (HT.ext (HX.trans hW))
   have wI:(j:Int)<(n:Int):=by omega
   clear DD yj o5 hST sF HCC
   go_upto_region 5 with fail
   refine iP (fun w'=>w'.cell? ⟨gx,ox+j,none⟩=some (.string (aD a))/\w'.cell? ⟨gy,oy+j,none⟩=some (.string (aD b))/\Hid (aC wr w')) 14 (by kernel_rfl) ⟨(aC.drew wr).cell z1,(aC.drew wr).cell z2,aC.drew wr⟩ (fun oX=>?_);refine rA [0,1,2,3,4,5,6,7,8,9,10] ?_
   iterate 11 ((first|(refine rL (v:=?_) (by rfl) (Or.inl ⟨by rfl,?_⟩) ?_;rotate_left;·((intro w' oz);(try dsimp only at oz);(try go_simp);(try with_reducible rfl)))|(refine rW (v:=?_) (by rfl) (Or.inl ⟨by rfl,?_⟩) ?_;rotate_left;·((intro w');(try go_simp);(try with_reducible rfl))));(try simp only [Act.put,aK,aL,aM]))
   refine rE ?_;refine dO 11 (by kernel_rfl) rfl (fun K hK=>?_);go_simp
   (go_at_call 63;refine (HM _ (oX.2.2)).mono ?_)
   rintro e wz ⟨rfl,om⟩;go_wp2_with fail;refine hK _ _ ⟨(om).cell oX.1,(om).cell oX.2.1,aC.trans oX.2.2 (om)⟩ (fun oX=>?_);clear hK K
   (try simp only [Act.put,aK,aL,aM])
   refine dO 12 (by kernel_rfl) rfl (fun K hK=>?_);go_simp
   (go_at_call 185;refine (HU _ (oX.2.2)).mono ?_)
   rintro e wy ⟨rfl,om⟩;go_wp2_with fail;refine hK _ _ ⟨(om).cell oX.1,(om).cell oX.2.1,aC.trans oX.2.2 (om)⟩ (fun oX=>?_);clear hK K
   (try simp only [Act.put,aK,aL,aM])
   refine tW (v:=?_) 13 rfl (Or.inl ⟨by rfl,?_⟩) ?_;rotate_left
   ·((intro w');(try go_simp);(try with_reducible rfl))
   (try simp only [Act.put,aK,aL,aM])
   have qs:Hid (aC wr wy):=oX.2.2;have hb6:=aO HBK qs;have HB6:=n8 hb6;have k6:=aN hb6;have f6:=cD hb6;have k7:wy.cell? ⟨w.heap.size,j,none⟩=some (.string v0):=by rw [k6 j];exact Mi
   clear hb6 k6;refine fL 14 (by kernel_rfl) (by kernel_rfl) (by kernel_rfl) rfl (fun K hK=>?_);go_simp;refine hK _ _ ?_;clear hK K
   (try simp only [Act.put,aK,aL,aM])
   go_wp2_with fail;go_roundw
   case rel=>exact ⟨j+1,by omega,by go_num,(HX.trans qs).setCell (oJ _) _,C.set j (.string (aD (a-k*b))),by rw [<- h2_];exact fA HB6 j _,HNX⟩
   case measure=>simp [intOf];omega
  ·obtain rfl:j=n:=by omega
   obtain ⟨C,o5,hST⟩:=HCC.out;have HF:Hid (bU wr w.heap.size 0 (an k r s)):=hST.row (by rw [ir];exact HN) o5;clear o5 hST HCC;go_wp2_with fail;go_ret;exact ⟨rfl,HX,HF⟩
theorem g2_ {c d:Nat} {m:List (List Int)}:∀ {k a:Nat},bP c d m k=some a->d<=a
 | 0,a,h=>by cases h
 | k+1,a,h=>by
  unfold bP at h;cases hb:bP c d m k with
  | none =>
   rw [hb] at h;simp only at h
   split at h
   ·cases h
   ·cases h;omega
  | some b =>
   rw [hb] at h;simp only at h;have:=g2_ hb
   split at h
   ·cases h;omega
   ·cases h;exact this
def dU (n c d:Nat):Nat->List (List Int)->Option (List (List Int)×Bool)
 | 0,_=>none
 | f+1,m =>
  if cF n m then
   match bP c d m (m.length-d) with
   | none=>some (m,false)
   | some a=>match dA c d (bR m d a) (m.length-(d+1)) with
    | none=>none
    | some (m2,true)=>dU n c d f m2
    | some (m2,false)=>some (m2,true)
  else none
theorem jL (n c d f:Nat) (m:List (List Int)):dU n c d (f+1) m=if cF n m then
   match bP c d m (m.length-d) with
   | none=>some (m,false)
   | some a=>match dA c d (bR m d a) (m.length-(d+1)) with
    | none=>none
    | some (m2,true)=>dU n c d f m2
    | some (m2,false)=>some (m2,true)
  else none:=rfl
def upW (c d:Nat) (m:List (List Int)):Option (List (List Int)):=ev c d (if aF m d c<0 then m.set d ((aG m d).map (- ·)) else m) d
theorem o8_ (n c d:Nat):∀ (F:Nat) (m:List (List Int)),fI n c d F m=match dU n c d F m with
  | none=>none
  | some (m',false)=>some (m',false)
  | some (m',true)=>if cF n m' then (match upW c d m' with | none=>none | some m4=>some (m4,true)) else none
 | 0,_=>rfl
 | F+1,m=>by
  rw [jL];unfold fI;by_cases h:cF n m=true
  ·rw [if_pos h,if_pos h];cases bP c d m (m.length-d) with
   | none=>rfl
   | some a =>
    simp only;cases dA c d (bR m d a) (m.length-(d+1)) with
    | none=>rfl
    | some r =>
     obtain ⟨m2,b⟩:=r;cases b
     ·rfl
     ·exact o8_ n c d F m2
  ·rw [if_neg h,if_neg h]
def bG (n k:Nat):List Nat:=if k=n then [] else aJ n (k+1)
def cn (n k:Nat) (X:List Int) (i s:Nat):Int:=if s.testBit i=true then bu (X.getD (be n k (s ^^^ (1 <<< i))) 0) (cK (1 <<< i) (s ^^^ (1 <<< i))) else 0
def cW (n i:Nat):List Int:=(List.replicate n (0:Int)).set i 1
def gF (n k:Nat) (X:List Int) (i:Nat):List Int:=(bG n k).map (cn n k X i)++cW n i
def cE (n k:Nat) (X:List Int):List (List Int):=(List.range n).map (gF n k X)
def fP (N F:Nat) (m:List (List Int)):Nat->Option (List (List Int)×Nat)
 | 0=>some (m,0)
 | c+1=>match fP N F m c with
  | none=>none
  | some (m1,d)=>match dU N c d F m1 with
   | none=>none
   | some (m2,p)=>some (m2,if p then d+1 else d)
theorem kN (N F:Nat) (m:List (List Int)) (c:Nat):fP N F m (c+1)=match fP N F m c with
  | none=>none
  | some (m1,d)=>match dU N c d F m1 with
   | none=>none
   | some (m2,p)=>some (m2,if p then d+1 else d):=rfl
def ei (F n k:Nat) (X:List Int):Option (List (List Int)) :=
 match fP ((bG n k).length+n) F (cE n k X) (bG n k).length with
 | none=>none
 | some (m,d)=>some ((m.drop d).map (·.drop (bG n k).length))
def kH (n F:Nat) (m:List (List Int)):Option (List (List Int)):=(fv n F n 0 0 m).map (·.1)
theorem kM {n k i s:Nat} {X:List Int} (h:s.testBit i=true):cn n k X i s=bu (X.getD (be n k (s ^^^ (1 <<< i))) 0) (cK (1 <<< i) (s ^^^ (1 <<< i))):=if_pos h
theorem lG {n k i s:Nat} {X:List Int} (h:s.testBit i=false):cn n k X i s=0:=if_neg (by rw [h];decide)
theorem mw {n c d:Nat}:∀ {F:Nat} {m m':List (List Int)} {p:Bool},dU n c d F m=some (m',p)->d<=m.length->m'.length=m.length/\(p=true->d<m.length)/\(∀ i,i<d->aG m' i=aG m i)
 | 0,m,m',p,h,_=>by cases h
 | F+1,m,m',p,h,hd=>by
  rw [jL] at h;by_cases hok:cF n m=true
  ·rw [if_pos hok] at h;cases hb:bP c d m (m.length-d) with
   | none =>
    rw [hb] at h;simp only [Option.some.injEq,Prod.mk.injEq] at h;obtain ⟨rfl,rfl⟩:=h;exact ⟨rfl,(fun e=>by cases e),fun _ _=>rfl⟩
   | some a =>
    rw [hb] at h;simp only at h;have hdl:d<m.length:=by
     by_cases e:d<m.length
     ·exact e
     ·rw [show m.length-d=0 by omega] at hb;cases hb
    cases pI:dA c d (bR m d a) (m.length-(d+1)) with
    | none=>rw [pI] at h;cases h
    | some r =>
     obtain ⟨m2,b⟩:=r;rw [pI] at h;obtain ⟨k1,k2,k3⟩:=ky pI (by rw [kd];omega);rw [kd] at k1;have k4:∀ i,i<d->aG m2 i=aG m i:=fun i hi=>by
      rw [k2 i (by omega)];have hsw:(bR m d a)[i]?=m[i]?:=by
       unfold bR
       split
       ·rename_i x y hx hy;have MC:a≠i\/¬ a<m.length:=by
         by_cases e:a=i
         ·exact absurd (g2_ hb) (by omega)
         ·exact .inl e
        rw [oV,oV];rw [if_neg (by rcases MC with e | e;exact e;intro e2;omega),if_neg (by omega)]
       ·rfl
      unfold aG;rw [oC,oC,hsw]
     cases b with
     | false =>
      simp only [Option.some.injEq,Prod.mk.injEq] at h;obtain ⟨rfl,rfl⟩:=h;exact ⟨k1,fun _=>hdl,k4⟩
     | true =>
      have ih:=mw (F:=F) h (by omega);exact ⟨by rw [ih.1,k1],fun _=>hdl,fun i hi=>by rw [ih.2.2 i hi,k4 i hi]⟩
  ·rw [if_neg hok] at h;cases h
theorem r3_ {N F : Nat} {m : List (List Int)} {C : Nat} : ∀ {y}, fP N F m C = some y -> ∀ j, j <= C -> ∃ z, fP N F m j = some z := by
  induction C with
  | zero => intro y h j hj; obtain rfl : j = 0 := by omega
            exact ⟨y, h⟩
  | succ C ih =>
    intro y h j hj;by_cases he : j = C + 1
    · subst he; exact ⟨y, h⟩
    · rw [kN] at h
      cases hc : fP N F m C with
      | none => rw [hc] at h; cases h
      | some z => exact ih hc j (by omega)
theorem J5_ {N F:Nat} {m:List (List Int)}:∀ (C:Nat) {m1:List (List Int)} {d:Nat},fP N F m C=some (m1,d)->m1.length=m.length/\d<=m.length
 | 0,m1,d,h=>by
  have h:some (m,0)=some (m1,d):=h;simp only [Option.some.injEq,Prod.mk.injEq] at h;obtain ⟨rfl,rfl⟩:=h;exact ⟨rfl,Nat.zero_le _⟩
 | C+1,m1,d,h=>by
  rw [kN] at h;cases hc:fP N F m C with
  | none=>rw [hc] at h;cases h
  | some z =>
   obtain ⟨m0,d0⟩:=z;rw [hc] at h;simp only at h;obtain ⟨l1,l2⟩:=J5_ C hc;cases hw:dU N C d0 F m0 with
   | none=>rw [hw] at h;cases h
   | some r =>
    obtain ⟨m2,p⟩:=r;rw [hw] at h;simp only [Option.some.injEq,Prod.mk.injEq] at h;obtain ⟨rfl,rfl⟩:=h;obtain ⟨q1,q2,-⟩:=mw hw (by omega);refine ⟨by omega,?_⟩;cases p
    ·exact l2
    ·have:=q2 rfl;simp;omega
end Go.Proofs.YtjlkkofmojgipaaGreatDoor
