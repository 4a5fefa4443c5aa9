import Derived.Test.YtjlkkofmojgipaaGreatDoorYAK
import Derived.Test.YtjlkkofmojgipaaGreatDoorYAE
namespace Go.Proofs.YtjlkkofmojgipaaGreatDoor
set_option linter.unusedVariables false
set_option linter.unusedSimpArgs false
open Go.RowKit
structure RowN (w:World) (g:Nat) (xs:List Int):Prop where
 lt:g<w.heap.size
 cell:∀ (j:Nat) x,xs[j]?=some x→w.cell? ⟨g,j,none⟩=some (.string (intB x))
 free:∀ j,w.frozen? ⟨g,j,none⟩=false
theorem RowN.same {w w':World} {g:Nat} {xs:List Int} (h:RowN w g xs) (hs:w.heap.size≤w'.heap.size) (hg:w'.heap[g]?=w.heap[g]?):RowN w' g xs :=
 ⟨Nat.lt_of_lt_of_le h.lt hs,fun j x hx=>(cell_of_heapQ hg _).trans (h.cell j x hx),fun j=>(free_of_heapQ hg j).trans (h.free j)⟩
theorem RowN.ext {w w':World} {g:Nat} {xs:List Int} (h:RowN w g xs) (he:Ext w w'):RowN w' g xs:=h.same he.size (he.block g h.lt)
theorem RowN.grown {w w':World} {S:Nat→Prop} {g:Nat} {xs:List Int} (h:RowN w g xs) (hg:GrownS S w w') (hS:¬ S g):RowN w' g xs:=h.same hg.size (hg.block g h.lt hS)
theorem RowN.set {w:World} {g:Nat} {xs:List Int} (h:RowN w g xs) (k:Nat) (hk:k<xs.length) (y:Int):RowN (w.setCell ⟨g,k,none⟩ (.string (intB y))) g (xs.set k y):=by
 refine ⟨by rw [setCell_sizeQ];exact h.lt,fun j x hx=>?_,fun j=>by rw [frozen_set];exact h.free j⟩
 rw [List.getElem?_set] at hx
 by_cases hj:k=j
 ·subst hj
  rw [if_pos rfl,if_pos hk] at hx
  cases hx
  exact World.cell?_setCell_same w _ _ (h.cell k xs[k] (List.getElem?_eq_getElem hk))
 ·rw [if_neg hj] at hx
  rw [World.cell?_setCell_other w _ _ _ (by intro e;simp only [Addr.mk.injEq] at e;omega)]
  exact h.cell j x hx
def numK:RowKind Int:=⟨RowN,fun h=>h.lt,fun h hs hg=>h.same hs hg⟩
structure MatN (w:World) (g0:Nat) (tags:List (Nat×Nat)) (m:List (List Int)):Prop where
 len:tags.length=m.length
 lt:g0<w.heap.size
 free:∀ j,w.frozen? ⟨g0,j,none⟩=false
 row:∀ (i:Nat) t r,tags[i]?=some t→m[i]?=some r→w.cell? ⟨g0,i,none⟩=some (.slice (some ⟨t.1,0,none⟩) r.length t.2)∧r.length≤t.2∧t.2≤9223372036854775807∧RowN w t.1 r
 nodup:(g0::tags.map (·.1)).Nodup
theorem MatN.same {w w':World} {g0:Nat} {tags:List (Nat×Nat)} {m:List (List Int)} (h:MatN w g0 tags m) (hs:w.heap.size≤w'.heap.size) (hb:∀ b,blocksQ g0 tags b→w'.heap[b]?=w.heap[b]?):MatN w' g0 tags m:=by
 have h0:=hb g0 (List.mem_cons_self ..)
 refine ⟨h.len,Nat.lt_of_lt_of_le h.lt hs,fun j=>(free_of_heapQ h0 j).trans (h.free j),fun i t r ht hr=>?_,h.nodup⟩
 obtain ⟨h1,h2,h3,h4⟩:=h.row i t r ht hr
 exact ⟨(cell_of_heapQ h0 i).trans h1,h2,h3,h4.same hs (hb t.1 (List.mem_cons_of_mem _ (List.mem_map.2 ⟨t,List.mem_of_getElem? ht,rfl⟩)))⟩
theorem MatN.blt {w:World} {g0:Nat} {tags:List (Nat×Nat)} {m:List (List Int)} (h:MatN w g0 tags m) {b:Nat} (hb:blocksQ g0 tags b):b<w.heap.size:=by
 rcases List.mem_cons.1 hb with rfl | hb
 ·exact h.lt
 ·obtain ⟨t,ht,rfl⟩:=List.mem_map.1 hb
  obtain ⟨i,hi⟩:=List.getElem?_of_mem ht
  have hl:i<m.length:=by rw [← h.len];exact (List.getElem?_eq_some_iff.1 hi).1
  exact (h.row i t m[i] hi (List.getElem?_eq_getElem hl)).2.2.2.lt
theorem MatN.ext {w w':World} {g0:Nat} {tags:List (Nat×Nat)} {m:List (List Int)} (h:MatN w g0 tags m) (he:Ext w w'):MatN w' g0 tags m :=
 h.same he.size fun b hb=>he.block b (h.blt hb)
theorem MatN.grown {w w':World} {S:Nat→Prop} {g0:Nat} {tags:List (Nat×Nat)} {m:List (List Int)} (h:MatN w g0 tags m) (hg:GrownS S w w') (hS:∀ b,blocksQ g0 tags b→¬ S b):MatN w' g0 tags m :=
 h.same hg.size fun b hb=>hg.block b (h.blt hb) (hS b hb)
theorem MatN.get {w:World} {g0:Nat} {tags:List (Nat×Nat)} {m:List (List Int)} (h:MatN w g0 tags m) {i:Nat} {r:List Int} (hr:m[i]?=some r) :
  ∃ t,tags[i]?=some t∧w.cell? ⟨g0,i,none⟩=some (.slice (some ⟨t.1,0,none⟩) r.length t.2)∧r.length≤t.2∧t.2≤9223372036854775807∧RowN w t.1 r∧t.1≠g0∧blocksQ g0 tags t.1:=by
 have hi:=(List.getElem?_eq_some_iff.1 hr).1
 have hl:i<tags.length:=by rw [h.len];exact hi
 have:=h.row i tags[i] r (List.getElem?_eq_getElem hl) hr
 refine ⟨tags[i],List.getElem?_eq_getElem hl,this.1,this.2.1,this.2.2.1,this.2.2.2,?_,List.mem_cons_of_mem _ (List.mem_map.2 ⟨tags[i],List.getElem_mem hl,rfl⟩)⟩
 have hn:=(List.nodup_cons.1 h.nodup).1
 intro e2
 exact hn (List.mem_map.2 ⟨tags[i],List.getElem_mem hl,e2⟩)
theorem MatN.apart {w:World} {g0:Nat} {tags:List (Nat×Nat)} {m:List (List Int)} (h:MatN w g0 tags m) {i j:Nat} {s t:Nat×Nat} (hs:tags[i]?=some s) (ht:tags[j]?=some t) (hij:i≠j):s.1≠t.1:=by
 have hn:=(List.nodup_cons.1 h.nodup).2
 intro e
 have h1:(tags.map (·.1))[i]?=some s.1:=by rw [List.getElem?_map,hs];rfl
 have h2:(tags.map (·.1))[j]?=some s.1:=by rw [List.getElem?_map,ht,e];rfl
 obtain ⟨l1,e1⟩:=List.getElem?_eq_some_iff.1 h1
 obtain ⟨l2,e2⟩:=List.getElem?_eq_some_iff.1 h2
 exact hij ((List.getElem_inj hn).1 (e1.trans e2.symm))
theorem MatN.setRow {w w':World} {g0:Nat} {tags:List (Nat×Nat)} {m:List (List Int)} (h:MatN w g0 tags m) {i:Nat} {t:Nat×Nat} {r r0:List Int} (ht:tags[i]?=some t) (hr0:m[i]?=some r0) (hr:r.length=r0.length) (hg:GrownS (·=t.1) w w') (hR:RowN w' t.1 r):MatN w' g0 tags (m.set i r):=by
 have hi:=(List.getElem?_eq_some_iff.1 hr0).1
 obtain ⟨t',ht',-,-,-,-,hne,-⟩:=h.get hr0
 obtain rfl:t'=t:=Option.some.inj (ht'.symm.trans ht)
 have h0:=hg.block g0 h.lt (fun e=>hne e.symm)
 refine ⟨by rw [List.length_set];exact h.len,Nat.lt_of_lt_of_le h.lt hg.size,fun j=>(free_of_heapQ h0 j).trans (h.free j),fun j s q hs hq=>?_,h.nodup⟩
 rw [List.getElem?_set] at hq
 by_cases hj:i=j
 ·subst hj
  rw [if_pos rfl,if_pos hi] at hq
  cases hq
  obtain rfl:s=t':=Option.some.inj (hs.symm.trans ht)
  obtain ⟨h1,h2,h3,h4⟩:=h.row i s r0 hs hr0
  rw [← hr] at h1 h2
  exact ⟨(cell_of_heapQ h0 i).trans h1,h2,h3,hR⟩
 ·rw [if_neg hj] at hq
  obtain ⟨h1,h2,h3,h4⟩:=h.row j s q hs hq
  exact ⟨(cell_of_heapQ h0 j).trans h1,h2,h3,h4.grown hg (h.apart hs ht (fun e=>hj e.symm))⟩
theorem MatN.swap {w:World} {g0:Nat} {tags:List (Nat×Nat)} {m:List (List Int)} (h:MatN w g0 tags m) {i j:Nat} {s t:Nat×Nat} {p q:List Int} (hs:tags[i]?=some s) (ht:tags[j]?=some t) (hp:m[i]?=some p) (hq:m[j]?=some q) :
  MatN ((w.setCell ⟨g0,i,none⟩ (.slice (some ⟨t.1,0,none⟩) q.length t.2)).setCell ⟨g0,j,none⟩ (.slice (some ⟨s.1,0,none⟩) p.length s.2)) g0 (swp tags i j) (swp m i j):=by
 have hgr:GrownS (·=g0) w ((w.setCell ⟨g0,i,none⟩ (.slice (some ⟨t.1,0,none⟩) q.length t.2)).setCell ⟨g0,j,none⟩ (.slice (some ⟨s.1,0,none⟩) p.length s.2)):=((GrownS.refl (·=g0) w).store (S:=(·=g0)) rfl _ _).store (S:=(·=g0)) rfl _ _
 have ci:=(h.row i s p hs hp).1
 have cj:=(h.row j t q ht hq).1
 refine ⟨by rw [swp_length,swp_length];exact h.len,by rw [setCell_sizeQ,setCell_sizeQ];exact h.lt,fun k=>by rw [frozen_set,frozen_set];exact h.free k,fun k u r hu hr=>?_,?_⟩
 ·rw [swp_get hs ht] at hu
  rw [swp_get hp hq] at hr
  have hrow:∀ (k:Nat) u r,tags[k]?=some u→m[k]?=some r→RowN ((w.setCell ⟨g0,i,none⟩ (.slice (some ⟨t.1,0,none⟩) q.length t.2)).setCell ⟨g0,j,none⟩ (.slice (some ⟨s.1,0,none⟩) p.length s.2)) u.1 r:=by
   intro k u r hu hr
   obtain ⟨u',hu',-,-,-,hR,hne,-⟩:=h.get hr
   obtain rfl:u'=u:=Option.some.inj (hu'.symm.trans hu)
   exact hR.grown hgr hne
  by_cases e1:k=j
  ·subst e1
   rw [if_pos rfl] at hu hr
   cases hu;cases hr
   obtain ⟨_,h2,h3,_⟩:=h.row i s p hs hp
   refine ⟨?_,h2,h3,hrow i s p hs hp⟩
   by_cases e2:i=k
   ·subst e2
    exact World.cell?_setCell_same _ _ _ (World.cell?_setCell_same w _ _ ci)
   ·exact World.cell?_setCell_same _ _ _ ((World.cell?_setCell_other _ _ _ _ (by intro e;simp only [Addr.mk.injEq] at e;omega)).trans cj)
  ·rw [if_neg e1] at hu hr
   by_cases e2:k=i
   ·subst e2
    rw [if_pos rfl] at hu hr
    cases hu;cases hr
    obtain ⟨_,h2,h3,_⟩:=h.row j t q ht hq
    refine ⟨?_,h2,h3,hrow j t q ht hq⟩
    rw [World.cell?_setCell_other _ _ _ _ (by intro e;simp only [Addr.mk.injEq] at e;omega)]
    exact World.cell?_setCell_same w _ _ ci
   ·rw [if_neg e2] at hu hr
    obtain ⟨h1,h2,h3,_⟩:=h.row k u r hu hr
    refine ⟨?_,h2,h3,hrow k u r hu hr⟩
    rw [World.cell?_setCell_other _ _ _ _ (by intro e;simp only [Addr.mk.injEq] at e;omega),World.cell?_setCell_other _ _ _ _ (by intro e;simp only [Addr.mk.injEq] at e;omega)]
    exact h1
 ·have hn:=List.nodup_cons.1 h.nodup
  rw [swp_map]
  refine List.nodup_cons.2 ⟨?_,swp_nodup hn.2 i j⟩
  intro hm
  refine hn.1 ?_
  obtain ⟨k,hk⟩:=List.getElem?_of_mem hm
  have a1:(tags.map (·.1))[i]?=some s.1:=by rw [List.getElem?_map,hs];rfl
  have a2:(tags.map (·.1))[j]?=some t.1:=by rw [List.getElem?_map,ht];rfl
  rw [swp_get a1 a2] at hk
  by_cases e1:k=j
  ·rw [if_pos e1] at hk;cases hk;exact List.mem_of_getElem? a1
  ·rw [if_neg e1] at hk
   by_cases e2:k=i
   ·rw [if_pos e2] at hk;cases hk;exact List.mem_of_getElem? a2
   ·rw [if_neg e2] at hk;exact List.mem_of_getElem? hk
theorem RowsO.matN {e:TypeId} {w:World} {ob base:Nat} {g cap:Nat} {tags:List (Nat×Nat)} {m:List (List Int)} (h:RowsO numK e w ob base (.slice (some ⟨g,0,none⟩) m.length cap) tags m) (hob:base≤ob) :
  MatN w g tags m∧m.length≤cap∧cap≤9223372036854775807∧∀ b,blocksQ g tags b→base≤b:=by
 obtain ⟨h1,h2,h3,h4,h5,h6,h7⟩:=h.parts
 refine ⟨⟨h.len,h2,h3,h4,h5⟩,h6,h7,fun b hb=>?_⟩
 rcases List.mem_cons.1 hb with rfl | hb
 ·exact Nat.le_trans hob h1
 ·exact (h.fresh hb).1
set_option maxRecDepth 100000 in
set_option maxHeartbeats 400000 in
theorem rSign_any (n:Int) (w:World) :
  Calls Tryz.prog 86 #[.string (intB n)] w fun e w'=>e=.returned (.int .i64 n.sign)∧w=w':=by
 have hp0:0<(intB n).size:=intB_size_pos n
 have hz:=int_zero n
 by_cases h0:n=0
 ·rw [decide_eq_true h0] at hz
  have HR:Hid (n.sign=0):=by unfold Hid;rw [h0];rfl
  rw [HR.out]
  clear h0 HR
  go_enter Tryz.func86,Tryz.ntmps86
  go_wp2_with fail
  go_ret
  exact ⟨rfl,rfl⟩
 ·rw [decide_eq_false h0] at hz
  by_cases h:n<0
  ·have q:=neg_head n h hp0
   have HR:Hid (n.sign=-1):=Int.sign_eq_neg_one_of_neg h
   rw [HR.out]
   clear h0 h HR
   go_enter Tryz.func86,Tryz.ntmps86
   go_wp2_with fail
   go_ret
   exact ⟨rfl,rfl⟩
  ·have q:=dig_head (intB n) n.toNat (intB_pos n (by omega)) hp0
   have HR:Hid (n.sign=1):=Int.sign_eq_one_of_pos (by omega)
   rw [HR.out]
   clear h0 h HR
   go_enter Tryz.func86,Tryz.ntmps86
   go_wp2_with fail
   go_ret
   exact ⟨rfl,rfl⟩
set_option maxRecDepth 100000 in
theorem rOf_any (n:Int) (w:World) (h1:-9223372036854775808≤n) (h2:n≤9223372036854775807) (ht:Pow10 w) :
  Calls Tryz.prog 69 #[.int .i64 n] w fun e w'=>e=.returned (.string (intB n))∧Ext w w':=by
 have HA:=Lib.hid (itoa_int n w h1 h2 ht)
 clear ht
 go_enter Tryz.func69,Tryz.ntmps69
 go_wp2_with fail
 refine HA.out.mono ?_
 rintro e w1 ⟨rfl,hE1⟩
 have HE1:=Lib.hid hE1
 clear hE1 HA
 go_wp2_with fail
 go_ret
 exact ⟨rfl,HE1.out⟩
set_option maxRecDepth 100000 in
set_option maxHeartbeats 400000 in
theorem rDigits_any (n:Int) (w:World) :
  Calls Tryz.prog 115 #[.string (intB n)] w fun e w'=>e=.returned (.string (numB n.natAbs))∧w=w':=by
 have hp0:0<(intB n).size:=intB_size_pos n
 have hp':(0:Int)<((intB n).size:Int):=by omega
 by_cases h:n<0
 ·have q:=neg_head n h hp0
  have HT:=Lib.hid (neg_tail n h)
  have hp1:(1:Int)≤((intB n).size:Int):=by omega
  have hp2:1≤(intB n).size:=hp0
  clear h
  go_enter Tryz.func115,Tryz.ntmps115
  go_wp2_with fail
  go_ret
  exact ⟨by rw [← HT.out];rfl,rfl⟩
 ·have q:=dig_head (intB n) n.toNat (intB_pos n (by omega)) hp0
  have HR:Hid (intB n=numB n.natAbs):=by unfold Hid;rw [intB_pos n (by omega)];congr 1;omega
  clear h
  go_enter Tryz.func115,Tryz.ntmps115
  go_wp2_with fail
  go_ret
  exact ⟨by rw [← HR.out];rfl,rfl⟩
structure TextAt (s:ByteArray) (i0 u:Nat):Prop where
 size:i0≤s.size
 digs:(s.data.toList.drop i0).all isDig=true
 val:decV 0 (s.data.toList.drop i0)=u
def preV (s:ByteArray) (i0 i:Nat):Nat:=decV 0 ((s.data.toList.drop i0).take (i-i0))
theorem preV_succ {s:ByteArray} {i0 i:Nat} (h0:i0≤i) (hi:i<s.size):preV s i0 (i+1)=preV s i0 i*10+(s[i].toNat-48):=by
 unfold preV
 have h1:(s.data.toList.drop i0)[i-i0]?=some s[i]:=by
  rw [List.getElem?_drop,show i0+(i-i0)=i by omega]
  exact bytes_get s i hi
 rw [show i+1-i0=(i-i0)+1 by omega,List.take_add_one,h1,decV_append]
 rfl
theorem TextAt.dig {s:ByteArray} {i0 u:Nat} (h:TextAt s i0 u) {i:Nat} (h0:i0≤i) (hi:i<s.size):48≤s[i].toNat∧s[i].toNat≤57:=by
 have h1:(s.data.toList.drop i0)[i-i0]?=some s[i]:=by
  rw [List.getElem?_drop,show i0+(i-i0)=i by omega]
  exact bytes_get s i hi
 exact of_decide_eq_true (List.all_eq_true.1 h.digs _ (List.mem_of_getElem? h1))
theorem TextAt.le {s:ByteArray} {i0 u:Nat} (h:TextAt s i0 u) (i:Nat):preV s i0 i≤u:=by
 have hs:s.data.toList.drop i0=(s.data.toList.drop i0).take (i-i0)++(s.data.toList.drop i0).drop (i-i0):=(List.take_append_drop _ _).symm
 rw [← h.val,hs,decV_append]
 unfold preV
 exact decV_self _ _
theorem TextAt.all {s:ByteArray} {i0 u:Nat} (h:TextAt s i0 u):preV s i0 s.size=u:=by
 unfold preV
 rw [List.take_of_length_le (by rw [List.length_drop,← Lib.size_eq];omega)]
 exact h.val
theorem dig_ne (u:Nat):Lib.decDigits u≠[]:=by
 have h:=(itoa_canon (u:Int)).2.2.2
 have e:Lib.itoa (u:Int)=Lib.decDigits u:=by unfold Lib.itoa;rw [if_neg (by omega)];rfl
 rwa [e] at h
theorem decV_digits (u : Nat) : decV 0 (Lib.decDigits u) = u := by
  have h := (itoa_canon (u : Int)).2.1
  have e : Lib.itoa (u : Int) = Lib.decDigits u := by unfold Lib.itoa; rw [if_neg (by omega)]; rfl
  rw [e] at h
  have hd := digits_all u
  cases hl : Lib.decDigits u with
  | nil => have := dig_ne u; rw [hl] at this; exact absurd rfl this
  | cons c r =>
    rw [hl] at h hd
    have hc : isDig c = true := by simp only [List.all_cons, Bool.and_eq_true] at hd; exact hd.1
    have hne : c ≠ 45 := by intro e; rw [e] at hc; revert hc; decide
    rw [numS_other hne] at h
    exact Int.ofNat.inj h
theorem text_int (n:Int):TextAt (intB n) (if n<0 then 1 else 0) n.natAbs:=by
 by_cases h:n<0
 ·rw [if_pos h]
  have hl:(intB n).data.toList.drop 1=Lib.decDigits n.natAbs:=by rw [intB_neg n h,numB_data];rfl
  exact ⟨by have:=intB_size_pos n;omega,by rw [hl];exact digits_all _,by rw [hl];exact decV_digits _⟩
 ·rw [if_neg h]
  have hl:(intB n).data.toList.drop 0=Lib.decDigits n.natAbs:=by rw [intB_pos n (by omega),numB_data,List.drop_zero];congr 1;omega
  exact ⟨Nat.zero_le _,by rw [hl];exact digits_all _,by rw [hl];exact decV_digits _⟩
set_option maxRecDepth 100000 in
set_option maxHeartbeats 2000000 in
theorem rSmall_any (n:Int) (w:World) (hn:-1000000000000000000<n∧n<1000000000000000000) :
  Calls Tryz.prog 178 #[.string (intB n)] w fun e w'=>e=.returned (.tuple #[.int .i64 n,.bool true])∧Ext w w':=by
 have HT:=Lib.hid (text_int n)
 have hp0:0<(intB n).size:=intB_size_pos n
 have hp':(0:Int)<((intB n).size:Int):=by omega
 obtain ⟨u,hu⟩:∃ u,u=n.natAbs:=⟨_,rfl⟩
 rw [← hu] at HT
 have hub:u<1000000000000000000:=by omega
 have hsz:(intB n).size≤19:=by
  have h1:=intB_size_le n
  have h2:=numB_size_le n.natAbs 18 (by rw [show (10:Nat)^18=1000000000000000000 by decide];omega) (by omega)
  omega
 by_cases h:n<0
 case' pos =>
  rw [if_pos h] at HT
  have q:=neg_head n h hp0
  have hs2:2≤(intB n).size:=by
   rw [intB_size_neg n h]
   have:0<(numB n.natAbs).size:=by rw [Lib.size_eq,numB_data];exact List.length_pos_iff.2 (dig_ne _)
   omega
  have q2:((1:Int) == ((intB n).size:Int))=false:=by rw [beq_eq_false_iff_ne];omega
  have hnu:n=-(u:Int):=by omega
  obtain ⟨i0,hi0⟩:∃ i0:Nat,i0=1:=⟨1,rfl⟩
 case' neg =>
  rw [if_neg h] at HT
  have q:=dig_head (intB n) n.toNat (intB_pos n (by omega)) hp0
  have q2:((0:Int) == ((intB n).size:Int))=false:=by rw [beq_eq_false_iff_ne];omega
  have hnu:n=(u:Int):=by omega
  obtain ⟨i0,hi0⟩:∃ i0:Nat,i0=0:=⟨0,rfl⟩
 all_goals
  have HI:=Lib.hid hi0
  have HNU:=Lib.hid hnu
  rw [← hi0] at HT
  clear h hu hi0 hnu
  generalize intB n=s at *
  go_enter Tryz.func178,Tryz.ntmps178
  go_wp2_with fail
  clear q q2
  go_loopw [5,7] (fun t v wr=>∃ i:Nat,i0≤i∧i≤s.size∧t=.int .i64 (i:Int)∧v=.int .i64 (-(preV s i0 i:Int))∧Ext w wr) (fun t _ _=>s.size-(intOf t).toNat)
  case atStart=>exact ⟨i0,Nat.le_refl _,HT.out.size,by rw [HI.out];rfl,by unfold preV;rw [Nat.sub_self];rfl,by first | exact Ext.refl _ | exact Ext.drew _⟩
  case round =>
   obtain ⟨i,hi1,hi2,rfl,rfl,hE⟩:=hrel
   by_cases hlt:i<s.size
   ·obtain ⟨dg1,dg2⟩:=HT.out.dig hi1 hlt
    have hsu:=preV_succ hi1 hlt
    have hle:=HT.out.le (i+1)
    obtain ⟨z,hz⟩:∃ z:Nat,s[i].toNat=z+48:=⟨s[i].toNat-48,by omega⟩
    obtain ⟨p,hp⟩:∃ p,p=preV s i0 i:=⟨_,rfl⟩
    rw [hz,← hp,show z+48-48=z by omega] at hsu
    have HSU:=Lib.hid hsu
    rw [hsu] at hle
    rw [← hp]
    have e1:(s[i].toNat:Int)=(z:Int)+48:=by rw [hz];rfl
    have e2:IntKind.i64.wrap ((z:Int)+48-48)=(z:Int):=by rw [IntKind.wrap_i64];omega
    have e3:¬ (9:Int)<(z:Int):=by omega
    have e4:IntKind.i64.wrap (-9223372036854775808+(z:Int))=-9223372036854775808+(z:Int):=by rw [IntKind.wrap_i64];omega
    obtain ⟨dq,hdq⟩:∃ dq,(-9223372036854775808+(z:Int)).tdiv 10=dq:=⟨_,rfl⟩
    have hdb:dq≤-900000000000000000∧-1000000000000000000≤dq:=by
     have hneg:-9223372036854775808+(z:Int)=-(9223372036854775808-(z:Int)):=by omega
     rw [hneg,Int.neg_tdiv,Int.tdiv_eq_ediv_of_nonneg (by omega)] at hdq
     omega
    have e5:IntKind.i64.wrap dq=dq:=by rw [IntKind.wrap_i64];omega
    have e6:¬ (-(p:Int))<dq:=by omega
    have e7:IntKind.i64.wrap (-(p:Int)*10)=-(p:Int)*10:=by rw [IntKind.wrap_i64];omega
    have e8:IntKind.i64.wrap (-(p:Int)*10-(z:Int))=-(p:Int)*10-(z:Int):=by rw [IntKind.wrap_i64];omega
    have z1:=decide_eq_false e3
    have z2:=decide_eq_false e6
    clear hz hp hsu dg1 dg2
    have e9:IntKind.i64.wrap ((i:Int)+1)=(i:Int)+1:=by rw [IntKind.wrap_i64];omega
    go_wp2_with fail
    go_roundw
    case rel=>exact ⟨i+1,by omega,by omega,by go_num,by rw [HSU.out];congr 1;omega,by first | exact hE | trivial⟩
    case measure=>simp [intOf];omega
   ·obtain rfl:i=s.size:=by omega
    rw [HT.out.all]
    have e1:((-(u:Int)) == -9223372036854775808)=false:=by rw [beq_eq_false_iff_ne];omega
    have e2:IntKind.i64.wrap (0 - -(u:Int))=(u:Int):=by rw [IntKind.wrap_i64];omega
    go_wp2_with fail
    go_ret2
    exact ⟨by rw [HNU.out];first | rfl | simp,by first | exact hE | trivial⟩
set_option maxRecDepth 100000 in
theorem rQuick_any (n:Int) (w:World) (hn:-1000000000000000000<n∧n<1000000000000000000) :
  Calls Tryz.prog 126 #[.string (intB n)] w fun e w'=>e=.returned (.tuple #[.int .i64 n,.bool true])∧Ext w w':=by
 have HD:=Lib.hid (rDigits_any n w)
 have HS:=Lib.hid (fun W=>rSmall_any n W hn)
 have hsz:=numB_size_le n.natAbs 18 (by rw [show (10:Nat)^18=1000000000000000000 by decide];omega) (by omega)
 have hz:¬ (18:Int)<((numB n.natAbs).size:Int):=by omega
 clear hn
 go_enter Tryz.func126,Tryz.ntmps126
 go_wp2_with fail
 refine HD.out.mono ?_
 rintro e w1 ⟨rfl,rfl⟩
 go_wp2_with fail
 refine (HS.out _).mono ?_
 rintro e w2 ⟨rfl,hE⟩
 have HE:=Lib.hid hE
 clear hE HS HD
 go_wp2_with fail
 go_ret2
 exact ⟨rfl,HE.out⟩
end Go.Proofs.YtjlkkofmojgipaaGreatDoor
