import Derived.Test.YtjlkkofmojgipaaGreatDoorTAV
import Derived.Test.YtjlkkofmojgipaaGreatDoorTAE
import Derived.Deep.CutRange
import Derived.Deep.RegionWith
namespace Go.Proofs.YtjlkkofmojgipaaGreatDoor
set_option linter.unusedVariables false
set_option linter.unusedSimpArgs false
open Go.RowKit
theorem rowE_get {m:List (List Int)} {i:Nat} (hi:i<m.length):m[i]?=some (rowE_ m i):=by
 unfold rowE_;rw [List.getD_eq_getElem?_getD,List.getElem?_eq_getElem hi];rfl
theorem rowE_of {m:List (List Int)} {i:Nat} {r:List Int} (h:m[i]?=some r):rowE_ m i=r:=by
 unfold rowE_;rw [List.getD_eq_getElem?_getD,h];rfl
theorem rowE_set {m:List (List Int)} {i j:Nat} {r:List Int} (hi:i<m.length):rowE_ (m.set i r) j=if j=i then r else rowE_ m j:=by
 unfold rowE_
 rw [List.getD_eq_getElem?_getD,List.getD_eq_getElem?_getD,List.getElem?_set]
 by_cases h:i=j
 ·subst h;rw [if_pos rfl,if_pos rfl,if_pos hi];rfl
 ·rw [if_neg h,if_neg (fun e=>h e.symm)]
theorem swapL_len {α:Type} (l:List α) (i j:Nat):(swapL l i j).length=l.length:=by
 unfold swapL;split <;> simp
theorem swapL_eq {α:Type} {l:List α} {i j:Nat} {a b:α} (hi:l[i]?=some a) (hj:l[j]?=some b):swapL l i j=(l.set i b).set j a:=by
 unfold swapL;rw [hi,hj]
theorem swapL_mem {α:Type} (l:List α) (i j:Nat) (x:α) (h:x∈swapL l i j):x∈l:=by
 unfold swapL at h
 cases hi:l[i]? with
 | none=>rw [hi] at h;exact h
 | some a =>
  cases hj:l[j]? with
  | none=>rw [hi,hj] at h;exact h
  | some b =>
   rw [hi,hj] at h
   rcases List.mem_or_eq_of_mem_set h with h | h
   ·rcases List.mem_or_eq_of_mem_set h with h | h
    ·exact h
    ·rw [h];exact List.mem_of_getElem? hj
   ·rw [h];exact List.mem_of_getElem? hi
theorem swapL_map {α β:Type} (f:α→β) (l:List α) (i j:Nat):(swapL l i j).map f=swapL (l.map f) i j:=by
 unfold swapL
 rw [List.getElem?_map,List.getElem?_map]
 cases l[i]? with
 | none=>rfl
 | some a=>cases l[j]? with
  | none=>rfl
  | some b=>simp [List.map_set]
theorem okM_swap {n:Nat} {m:List (List Int)} (h:okM n m=true) (i j:Nat):okM n (swapL m i j)=true:=by
 unfold okM at h ⊢
 rw [List.all_eq_true] at h ⊢
 exact fun x hx=>h x (swapL_mem m i j x hx)
theorem okM_row {n:Nat} {m:List (List Int)} (h:okM n m=true) (i:Nat) (hi:i<m.length):(rowE_ m i).length=n∧(rowE_ m i).all smB=true:=by
 unfold okM at h
 have:=List.all_eq_true.1 h (rowE_ m i) (List.mem_of_getElem? (rowE_get hi))
 rw [Bool.and_eq_true,decide_eq_true_iff] at this
 exact this
theorem lessO_len {k:Int} {r s r':List Int} (h:lessO k r s=some r'):r'.length=r.length:=by
 unfold lessO at h
 split at h
 ·rw [← Option.some.inj h]
 ·split at h
  ·rw [← Option.some.inj h];exact lessL_len k r s
  ·cases h
theorem downO_succ (c d:Nat) (m:List (List Int)) (j:Nat):downO c d m (j+1)=match downO c d m j with
  | none=>none
  | some (m',rest) =>
   if getE m' d c=0 then none
   else match lessO (fdq (getE m' (d+1+j) c) (getE m' d c)) (rowE_ m' (d+1+j)) (rowE_ m' d) with
    | none=>none
    | some r=>some (m'.set (d+1+j) r,rest || decide (fdr (getE m' (d+1+j) c) (getE m' d c)≠0)):=rfl
theorem downO_step {c d j:Nat} {m:List (List Int)} {y:List (List Int)×Bool} (h:downO c d m (j+1)=some y) :
  ∃ m' rest r,downO c d m j=some (m',rest)∧getE m' d c≠0∧lessO (fdq (getE m' (d+1+j) c) (getE m' d c)) (rowE_ m' (d+1+j)) (rowE_ m' d)=some r∧y=(m'.set (d+1+j) r,rest || decide (fdr (getE m' (d+1+j) c) (getE m' d c)≠0)):=by
 rw [downO_succ] at h
 cases hd:downO c d m j with
 | none=>rw [hd] at h;cases h
 | some p =>
  obtain ⟨m',rest⟩:=p
  rw [hd] at h
  simp only at h
  by_cases h0:getE m' d c=0
  ·rw [if_pos h0] at h;cases h
  ·rw [if_neg h0] at h
   cases hl:lessO (fdq (getE m' (d+1+j) c) (getE m' d c)) (rowE_ m' (d+1+j)) (rowE_ m' d) with
   | none=>rw [hl] at h;cases h
   | some r =>
    rw [hl] at h
    exact ⟨m',rest,r,rfl,h0,hl,(Option.some.inj h).symm⟩
theorem downO_some {c d : Nat} {m : List (List Int)} {k : Nat} : ∀ {y}, downO c d m k = some y → ∀ j, j ≤ k → ∃ z, downO c d m j = some z := by
  induction k with
  | zero => intro y h j hj; obtain rfl : j = 0 := by omega
            exact ⟨y, h⟩
  | succ k ih =>
    intro y h j hj
    by_cases he : j = k + 1
    · subst he; exact ⟨y, h⟩
    · obtain ⟨m', rest, r, h1, -⟩ := downO_step h
      exact ih h1 j (by omega)
theorem downO_keep {c d:Nat} {m:List (List Int)} {k:Nat}:∀ {m' rest},downO c d m k=some (m',rest)→d+1+k≤m.length→m'.length=m.length∧(∀ i,i≤d∨d+1+k≤i→rowE_ m' i=rowE_ m i)∧(∀ i,(rowE_ m' i).length=(rowE_ m i).length):=by
 induction k with
 | zero =>
  intro m' rest h hk
  have h:some (m,false)=some (m',rest):=h
  simp only [Option.some.injEq,Prod.mk.injEq] at h
  obtain ⟨rfl,-⟩:=h
  exact ⟨rfl,fun _ _=>rfl,fun _=>rfl⟩
 | succ k ih =>
  intro m' rest h hk
  obtain ⟨m1,r1,r,h1,h2,h3,h4⟩:=downO_step h
  obtain ⟨l1,l2,l3⟩:=ih h1 (by omega)
  simp only [Prod.mk.injEq] at h4
  obtain ⟨rfl,-⟩:=h4
  have hi:d+1+k<m1.length:=by omega
  refine ⟨by rw [List.length_set];exact l1,fun i hi2=>?_,fun i=>?_⟩
  ·rw [rowE_set hi,if_neg (by omega)];exact l2 i (by omega)
  ·rw [rowE_set hi]
   by_cases he:i=d+1+k
   ·rw [if_pos he,he,lessO_len h3];exact l3 _
   ·rw [if_neg he];exact l3 i
theorem upO_succ (c d:Nat) (m:List (List Int)) (j:Nat):upO c d m (j+1)=match upO c d m j with
  | none=>none
  | some m' =>
   if getE m' d c=0 then none
   else match lessO (fdq (getE m' j c) (getE m' d c)) (rowE_ m' j) (rowE_ m' d) with
    | none=>none
    | some r=>some (m'.set j r):=rfl
theorem upO_step {c d j:Nat} {m:List (List Int)} {y:List (List Int)} (h:upO c d m (j+1)=some y) :
  ∃ m' r,upO c d m j=some m'∧getE m' d c≠0∧lessO (fdq (getE m' j c) (getE m' d c)) (rowE_ m' j) (rowE_ m' d)=some r∧y=m'.set j r:=by
 rw [upO_succ] at h
 cases hd:upO c d m j with
 | none=>rw [hd] at h;cases h
 | some m' =>
  rw [hd] at h
  simp only at h
  by_cases h0:getE m' d c=0
  ·rw [if_pos h0] at h;cases h
  ·rw [if_neg h0] at h
   cases hl:lessO (fdq (getE m' j c) (getE m' d c)) (rowE_ m' j) (rowE_ m' d) with
   | none=>rw [hl] at h;cases h
   | some r =>
    rw [hl] at h
    exact ⟨m',r,rfl,h0,hl,(Option.some.inj h).symm⟩
theorem upO_some {c d : Nat} {m : List (List Int)} {k : Nat} : ∀ {y}, upO c d m k = some y → ∀ j, j ≤ k → ∃ z, upO c d m j = some z := by
  induction k with
  | zero => intro y h j hj; obtain rfl : j = 0 := by omega
            exact ⟨y, h⟩
  | succ k ih =>
    intro y h j hj
    by_cases he : j = k + 1
    · subst he; exact ⟨y, h⟩
    · obtain ⟨m', r, h1, -⟩ := upO_step h
      exact ih h1 j (by omega)
theorem upO_keep {c d:Nat} {m:List (List Int)} {k:Nat}:∀ {m'},upO c d m k=some m'→k≤d→d<m.length→m'.length=m.length∧(∀ i,k≤i→rowE_ m' i=rowE_ m i)∧(∀ i,(rowE_ m' i).length=(rowE_ m i).length):=by
 induction k with
 | zero =>
  intro m' h hk hd
  have h:some m=some m':=h
  obtain rfl:=Option.some.inj h
  exact ⟨rfl,fun _ _=>rfl,fun _=>rfl⟩
 | succ k ih =>
  intro m' h hk hd
  obtain ⟨m1,r,h1,h2,h3,rfl⟩:=upO_step h
  obtain ⟨l1,l2,l3⟩:=ih h1 (by omega) hd
  have hi:k<m1.length:=by omega
  refine ⟨by rw [List.length_set];exact l1,fun i hi2=>?_,fun i=>?_⟩
  ·rw [rowE_set hi,if_neg (by omega)];exact l2 i (by omega)
  ·rw [rowE_set hi]
   by_cases he:i=k
   ·rw [if_pos he,he,lessO_len h3];exact l3 _
   ·rw [if_neg he];exact l3 i
theorem swapL_perm {α:Type} [DecidableEq α] (l:List α) (i j:Nat):(swapL l i j).Perm l:=by
 cases hi:l[i]? with
 | none=>unfold swapL;rw [hi]
 | some a =>
  cases hj:l[j]? with
  | none=>unfold swapL;rw [hi,hj]
  | some b =>
   rw [swapL_eq hi hj,List.perm_iff_count]
   intro x
   have h1:=(List.getElem?_eq_some_iff.1 hi)
   have h2:=(List.getElem?_eq_some_iff.1 hj)
   obtain ⟨l1,e1⟩:=h1
   obtain ⟨l2,e2⟩:=h2
   have h2':j<(l.set i b).length:=by rw [List.length_set];exact l2
   rw [List.count_set h2',List.count_set l1]
   by_cases hij:i=j
   ·subst hij
    rw [List.getElem_set_self]
    rw [e1] at e2;subst e2
    rw [e1]
    have:(if a == x then 1 else 0)≤l.count x:=by
     split
     ·rename_i hx
      rw [← beq_iff_eq.1 hx]
      exact List.count_pos_iff.2 (List.mem_of_getElem? hi)
     ·exact Nat.zero_le _
    omega
   ·rw [List.getElem_set_ne hij,e1,e2]
    have k1:(if a == x then 1 else 0)≤l.count x:=by
     split
     ·rename_i hx
      rw [← beq_iff_eq.1 hx]
      exact List.count_pos_iff.2 (List.mem_of_getElem? hi)
     ·exact Nat.zero_le _
    have k2:(if b == x then 1 else 0)≤l.count x:=by
     split
     ·rename_i hx
      rw [← beq_iff_eq.1 hx]
      exact List.count_pos_iff.2 (List.mem_of_getElem? hj)
     ·exact Nat.zero_le _
    omega
theorem MatB.swap {w:World} {g0:Nat} {tags:List (Nat×Nat×Nat)} {m:List (List Int)} (h:MatB w g0 tags m) (d a:Nat) (hd:d<m.length) (ha:a<m.length) (td ta:Nat×Nat×Nat) (htd:tags[d]?=some td) (hta:tags[a]?=some ta) :
  MatB ((w.setCell ⟨g0,d,none⟩ (.slice (some ⟨ta.1,ta.2.1,none⟩) (rowE_ m a).length ta.2.2)).setCell ⟨g0,a,none⟩ (.slice (some ⟨td.1,td.2.1,none⟩) (rowE_ m d).length td.2.2)) g0 (swapL tags d a) (swapL m d a):=by
 obtain ⟨td',htd',c1,c2,c3,c4,c5⟩:=h.get d hd
 obtain rfl:td'=td:=Option.some.inj (htd'.symm.trans htd)
 obtain ⟨ta',hta',e1,e2,e3,e4,e5⟩:=h.get a ha
 obtain rfl:ta'=ta:=Option.some.inj (hta'.symm.trans hta)
 have hmd:=rowE_get hd
 have hma:=rowE_get ha
 rw [swapL_eq htd hta,swapL_eq hmd hma]
 obtain ⟨w1,hw1⟩:∃ w1,w1=(w.setCell ⟨g0,d,none⟩ (.slice (some ⟨ta'.1,ta'.2.1,none⟩) (rowE_ m a).length ta'.2.2)).setCell ⟨g0,a,none⟩ (.slice (some ⟨td'.1,td'.2.1,none⟩) (rowE_ m d).length td'.2.2):=⟨_,rfl⟩
 have hsz:w1.heap.size=w.heap.size:=by rw [hw1,setCell_size,setCell_size]
 have hoth:∀ b,b≠g0→w1.heap[b]?=w.heap[b]?:=fun b hb=>by rw [hw1,setCell_heap_other _ _ _ _ _ hb,setCell_heap_other _ _ _ _ _ hb]
 have hfr:∀ j,w1.frozen? ⟨g0,j,none⟩=false:=fun j=>by rw [hw1,setCell_free,setCell_free];exact h.free j
 have hca:w1.cell? ⟨g0,a,none⟩=some (.slice (some ⟨td'.1,td'.2.1,none⟩) (rowE_ m d).length td'.2.2):=by
  rw [hw1]
  by_cases hda:d=a
  ·subst hda
   exact World.cell?_setCell_same _ _ _ (World.cell?_setCell_same w _ _ c1)
  ·exact World.cell?_setCell_same _ _ _ ((World.cell?_setCell_other w _ _ _ (by intro e;simp only [Addr.mk.injEq] at e;exact hda e.2.1)).trans e1)
 have hcd:d≠a→w1.cell? ⟨g0,d,none⟩=some (.slice (some ⟨ta'.1,ta'.2.1,none⟩) (rowE_ m a).length ta'.2.2):=fun hda=>by
  rw [hw1,World.cell?_setCell_other _ _ _ _ (by intro e;simp only [Addr.mk.injEq] at e;exact hda e.2.1.symm)]
  exact World.cell?_setCell_same w _ _ c1
 have hco:∀ j,j≠d→j≠a→w1.cell? ⟨g0,j,none⟩=w.cell? ⟨g0,j,none⟩:=fun j hjd hja=>by
  rw [hw1,World.cell?_setCell_other _ _ _ _ (by intro e;simp only [Addr.mk.injEq] at e;exact hja e.2.1.symm),World.cell?_setCell_other _ _ _ _ (by intro e;simp only [Addr.mk.injEq] at e;exact hjd e.2.1.symm)]
 rw [← hw1]
 clear hw1
 have hrow:∀ (t:Nat×Nat×Nat) r,t.1≠g0→RowB w t.1 t.2.1 r→RowB w1 t.1 t.2.1 r:=fun t r ht hr=>hr.same (by omega) (hoth t.1 ht)
 refine ⟨by simp only [List.length_set];exact h.len,by rw [hsz];exact h.lt,hfr,fun i t r ht hr=>?_,?_⟩
 ·have hlt:tags.length=m.length:=h.len
  by_cases hia:i=a
  ·subst hia
   rw [List.getElem?_set_self (by rw [List.length_set];omega)] at ht
   rw [List.getElem?_set_self (by rw [List.length_set];omega)] at hr
   obtain rfl:=Option.some.inj ht
   obtain rfl:=Option.some.inj hr
   exact ⟨hca,c2,c3,hrow _ _ c5 c4⟩
  ·rw [List.getElem?_set_ne (fun e=>hia e.symm)] at ht hr
   by_cases hid:i=d
   ·subst hid
    rw [List.getElem?_set_self (by omega)] at ht
    rw [List.getElem?_set_self (by omega)] at hr
    obtain rfl:=Option.some.inj ht
    obtain rfl:=Option.some.inj hr
    exact ⟨hcd hia,e2,e3,hrow _ _ e5 e4⟩
   ·rw [List.getElem?_set_ne (fun e=>hid e.symm)] at ht hr
    obtain ⟨k1,k2,k3,k4⟩:=h.row i t r ht hr
    have hne:t.1≠g0:=by
     intro e
     exact (List.nodup_cons.1 h.nodup).1 (List.mem_map.2 ⟨t,List.mem_of_getElem? ht,e⟩)
    exact ⟨(hco i hid hia).trans k1,k2,k3,hrow _ _ hne k4⟩
 ·have hn:=List.nodup_cons.1 h.nodup
  rw [List.nodup_cons]
  have hsw:((tags.set d ta').set a td').map (·.1)=swapL (tags.map (·.1)) d a:=by
   rw [← swapL_eq htd hta,swapL_map]
  rw [hsw]
  refine ⟨fun hm=>hn.1 (swapL_mem _ _ _ _ hm),?_⟩
  have hp:(swapL (tags.map (·.1)) d a).Perm (tags.map (·.1)):=swapL_perm _ _ _
  exact hp.nodup_iff.2 hn.2
def Sz (n:Int):Prop:=(numB n.natAbs).size≤1000000000
def Sz9 (n:Int):Prop:=(numB n.natAbs).size≤400000000
theorem sm_of {n:Int} (h:smB n=true):Sz n:=(smB_iff n).1 h
theorem sm9_of {n:Int} (h:sm9B n=true):Sz9 n:=(sm9B_iff n).1 h
theorem Sz.size {n:Int} (h:Sz n):(intB n).size≤1000000001:=by
 unfold Sz at h;have:=intB_size_le n;omega
theorem Sz9.size {n:Int} (h:Sz9 n):(intB n).size≤400000001:=by
 unfold Sz9 at h;have:=intB_size_le n;omega
theorem Sz.natAbs {n:Int} (h:Sz n):Sz (n.natAbs:Int):=by
 unfold Sz at h ⊢;rw [Int.natAbs_natCast];exact h
theorem Sz.neg {n:Int} (h:Sz n):Sz (-n):=by
 unfold Sz at h ⊢;rw [Int.natAbs_neg];exact h
theorem mul_size (x y:Int):(intB (x*y)).size≤(intB x).size+(intB y).size+1:=by
 have h1:=intB_size_le (x*y)
 have h2:=natAbs_le x
 have h3:=natAbs_le y
 have h4:=num_mul_size x.natAbs y.natAbs
 rw [Int.natAbs_mul] at h1
 omega
theorem divModZ (x y:Int) (w:World) (hx:Sz x) (hy:Sz y) (h0:y≠0) (ht:Pow10 w) :
  Calls Tryz.prog 94 #[.string (intB x),.string (intB y)] w fun e w'=>e=.returned (.tuple #[.string (intB (fdq x y)),.string (intB (fdr x y)),.int .i64 0])∧Ext w w' :=
 divModI_any x y w (by have:=hx.size;omega) (by have:=hy.size;omega) h0 ht
theorem sign_cmp (x y:Int) (h:x.sign≠y.sign):(x.sign<y.sign↔x<y)∧x≠y:=by
 rcases Int.lt_trichotomy x 0 with hx | hx | hx <;> rcases Int.lt_trichotomy y 0 with hy | hy | hy
 all_goals first
  | (rw [Int.sign_eq_neg_one_of_neg hx] at h ⊢) | (rw [hx] at h ⊢;rw [show (0:Int).sign=0 from rfl] at h ⊢) | (rw [Int.sign_eq_one_of_pos hx] at h ⊢)
 all_goals first
  | (rw [Int.sign_eq_neg_one_of_neg hy] at h ⊢) | (rw [hy] at h ⊢;rw [show (0:Int).sign=0 from rfl] at h ⊢) | (rw [Int.sign_eq_one_of_pos hy] at h ⊢)
 all_goals first | (exact absurd rfl h) | omega
def cmpI (x y:Int):Int:=if x<y then -1 else if x=y then 0 else 1
theorem natAbs_size (n:Int) (hs:(intB n).size≤10000000000):(numB n.natAbs).size≤10000000000:=by
 by_cases h:n<0
 ·have:=intB_size_neg n h;omega
 ·rw [intB_pos n (by omega)] at hs;rw [show n.natAbs=n.toNat by omega];exact hs
set_option maxRecDepth 100000 in
set_option maxHeartbeats 800000 in
theorem compare_q (x y:Int) (w:World) (hx:(intB x).size≤10000000000) (hy:(intB y).size≤10000000000) :
  Calls Tryz.prog 151 #[.string (intB x),.string (intB y)] w fun e w'=>e=.returned (.int .i64 (cmpI x y))∧∃ k,w'=w.drewN k:=by
 have H1:=Lib.hid (fun W=>sign_any x W)
 have H2:=Lib.hid (fun W=>sign_any y W)
 have H3:=Lib.hid (fun W=>split_q x W)
 have H4:=Lib.hid (fun W=>split_q y W)
 have H5:=Lib.hid (fun W=>decCompare_any x.natAbs y.natAbs W (natAbs_size x hx) (natAbs_size y hy))
 have H6:=Lib.hid (fun W=>decCompare_any y.natAbs x.natAbs W (natAbs_size y hy) (natAbs_size x hx))
 by_cases hs:x.sign=y.sign
 ·obtain ⟨s,hsx⟩:∃ s,x.sign=s:=⟨_,rfl⟩
  rw [hsx] at H1
  rw [← hs,hsx] at H2
  by_cases hn:x<0
  ·have hyn:y<0:=by
    rw [Int.sign_eq_neg_one_of_neg hn] at hs
    exact Int.sign_eq_neg_one_iff_neg.1 hs.symm
   have HC:Hid (cmpN y.natAbs x.natAbs=cmpI x y):=by
    unfold Hid cmpN cmpI
    rcases Int.lt_trichotomy x y with h | h | h
    ·rw [if_pos (by omega),if_pos h]
    ·rw [if_neg (by omega),if_pos (by omega),if_neg (by omega),if_pos h]
    ·rw [if_neg (by omega),if_neg (by omega),if_neg (by omega),if_neg (by omega)]
   rw [HC.out] at H6
   have hb:decide (x<0)=true:=decide_eq_true hn
   have hb2:decide (y<0)=true:=decide_eq_true hyn
   rw [hb] at H3
   rw [hb2] at H4
   have hss:(s != s)=false:=by simp
   clear hs hsx hn hyn hb hb2 HC H5
   go_enter Tryz.func151,Tryz.ntmps151
   go_wp2_with fail
   refine (H1.out _).mono ?_
   rintro e w' ⟨rfl,rfl⟩
   clear H1
   go_wp2_with fail
   refine (H2.out _).mono ?_
   rintro e w' ⟨rfl,rfl⟩
   clear H2
   go_wp2_with fail
   refine (H3.out _).mono ?_
   rintro e w1 ⟨rfl,k1,rfl⟩
   clear H3
   go_wp2_with fail
   refine (H4.out _).mono ?_
   rintro e w2 ⟨rfl,k2,rfl⟩
   clear H4
   go_wp2_with fail
   refine (H6.out _).mono ?_
   rintro e w' ⟨rfl,rfl⟩
   clear H6
   go_wp2_with fail
   go_ret
   exact ⟨rfl,_,rfl⟩
  ·have hyn:¬ y<0:=by
    intro h
    rw [Int.sign_eq_neg_one_of_neg h] at hs
    exact hn (Int.sign_eq_neg_one_iff_neg.1 hs)
   have HC:Hid (cmpN x.natAbs y.natAbs=cmpI x y):=by
    unfold Hid cmpN cmpI
    rcases Int.lt_trichotomy x y with h | h | h
    ·rw [if_pos (by omega),if_pos h]
    ·rw [if_neg (by omega),if_pos (by omega),if_neg (by omega),if_pos h]
    ·rw [if_neg (by omega),if_neg (by omega),if_neg (by omega),if_neg (by omega)]
   rw [HC.out] at H5
   have hb:decide (x<0)=false:=decide_eq_false hn
   have hb2:decide (y<0)=false:=decide_eq_false hyn
   rw [hb] at H3
   rw [hb2] at H4
   have hss:(s != s)=false:=by simp
   clear hs hsx hn hyn hb hb2 HC H6
   go_enter Tryz.func151,Tryz.ntmps151
   go_wp2_with fail
   refine (H1.out _).mono ?_
   rintro e w' ⟨rfl,rfl⟩
   clear H1
   go_wp2_with fail
   refine (H2.out _).mono ?_
   rintro e w' ⟨rfl,rfl⟩
   clear H2
   go_wp2_with fail
   refine (H3.out _).mono ?_
   rintro e w1 ⟨rfl,k1,rfl⟩
   clear H3
   go_wp2_with fail
   refine (H4.out _).mono ?_
   rintro e w2 ⟨rfl,k2,rfl⟩
   clear H4
   go_wp2_with fail
   refine (H5.out _).mono ?_
   rintro e w' ⟨rfl,rfl⟩
   clear H5
   go_wp2_with fail
   go_ret
   exact ⟨rfl,_,rfl⟩
 ·obtain ⟨hc1,hc2⟩:=sign_cmp x y hs
  obtain ⟨s,hsx⟩:∃ s,x.sign=s:=⟨_,rfl⟩
  obtain ⟨t,hty⟩:∃ t,y.sign=t:=⟨_,rfl⟩
  rw [hsx] at H1 hs hc1
  rw [hty] at H2 hs hc1
  have hst:(s != t)=true:=by simpa using hs
  clear H3 H4 H5 H6 hsx hty hs
  by_cases hlt:s<t
  ·have HC:Hid (cmpI x y=-1):=by unfold Hid cmpI;rw [if_pos (hc1.1 hlt)]
   rw [HC.out]
   clear HC hc1 hc2
   go_enter Tryz.func151,Tryz.ntmps151
   go_wp2_with fail
   refine (H1.out _).mono ?_
   rintro e w' ⟨rfl,rfl⟩
   clear H1
   go_wp2_with fail
   refine (H2.out _).mono ?_
   rintro e w' ⟨rfl,rfl⟩
   clear H2
   go_wp2_with fail
   go_ret
   exact ⟨rfl,0,rfl⟩
  ·have HC:Hid (cmpI x y=1):=by unfold Hid cmpI;rw [if_neg (fun h=>hlt (hc1.2 h)),if_neg hc2]
   rw [HC.out]
   clear HC hc1 hc2
   go_enter Tryz.func151,Tryz.ntmps151
   go_wp2_with fail
   refine (H1.out _).mono ?_
   rintro e w' ⟨rfl,rfl⟩
   clear H1
   go_wp2_with fail
   refine (H2.out _).mono ?_
   rintro e w' ⟨rfl,rfl⟩
   clear H2
   go_wp2_with fail
   go_ret
   exact ⟨rfl,0,rfl⟩
theorem Pow10.below {w w':World} {base:Nat} (h:Pow10 w) (he:Below base w w') (hb:4<base):Pow10 w':=by
 unfold Pow10 Lib.TabIs at h ⊢
 exact var?_below he (show Tryz.prog.globalNamed "internal/strconv.uint64pow10" = some 4 by kernel_rfl) hb h
theorem GrownS.below {S:Nat→Prop} {w w':World} {base:Nat} (h:GrownS S w w') (hb:base≤w.heap.size) (hS:∀ k,S k→base≤k):Below base w w' :=
 ⟨h.os,h.tape,h.output,h.size,fun k hk=>h.block k (Nat.lt_of_lt_of_le hk hb) (fun hs=>absurd (hS k hs) (by omega))⟩
theorem GrownS.setCell {S:Nat→Prop} {w w':World} (h:GrownS S w w') {g:Nat} (hg:S g) (i:Nat) (v:Value):GrownS S w (w'.setCell ⟨g,i,none⟩ v) :=
 h.trans (grownBy_S (grown_setCell w' g i v) (fun k hk=>by cases hk;exact hg))
theorem GrownS.ext {S:Nat→Prop} {a b c:World} (h:GrownS S a b) (he:Ext b c):GrownS S a c:=h.trans (he.grownS S)
end Go.Proofs.YtjlkkofmojgipaaGreatDoor
