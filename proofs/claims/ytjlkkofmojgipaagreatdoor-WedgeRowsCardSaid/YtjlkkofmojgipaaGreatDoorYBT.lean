import Derived.Test.YtjlkkofmojgipaaGreatDoorYBQ
import Derived.Test.YtjlkkofmojgipaaGreatDoorYBS
import Derived.Test.YtjlkkofmojgipaaGreatDoorYAM
import Derived.Test.YtjlkkofmojgipaaGreatDoorYBR
import Derived.Test.YtjlkkofmojgipaaGreatDoorYAF
import Derived.Test.YtjlkkofmojgipaaGreatDoorYAP
import Derived.Test.YtjlkkofmojgipaaGreatDoorYBP
import Derived.Test.YtjlkkofmojgipaaGreatDoorYAQ
import Derived.Test.YtjlkkofmojgipaaGreatDoorYAS
namespace Go.Proofs.YtjlkkofmojgipaaGreatDoor
set_option linter.unusedVariables false
set_option linter.unusedSimpArgs false
open Go.RowKit
theorem stepE_shape {C c:Nat} {s:ElS} (h:RectI C s.m) (hk:s.lead.length≤s.m.length):RectI C (stepE c s).m∧(stepE c s).m.length=s.m.length∧(stepE c s).lead.length≤s.m.length:=by
 unfold stepE
 simp only
 obtain ⟨g1,g2,g3,g4⟩:=findE_spec s.m c (s.m.length-s.lead.length) s.lead.length
 generalize findE s.m c (s.m.length-s.lead.length) s.lead.length=a at *
 by_cases ha:a=s.m.length
 ·rw [if_pos ha];exact ⟨h,rfl,hk⟩
 ·rw [if_neg ha]
  have r1:RectI C (if a=s.lead.length then s.m else swp s.m s.lead.length a)∧(if a=s.lead.length then s.m else swp s.m s.lead.length a).length=s.m.length:=by
   split
   ·exact ⟨h,rfl⟩
   ·exact ⟨h.swp _ _,swp_length _ _ _⟩
  obtain ⟨r1,r2⟩:=r1
  generalize (if a=s.lead.length then s.m else swp s.m s.lead.length a)=m1 at *
  exact ⟨r1.el _ _ _ _ (by omega) _ (Nat.le_refl _),by rw [elETo_len];exact r2,by rw [List.length_append];simp;omega⟩
theorem barTo_shape {C : Nat} {m : List (List Int)} (h : RectI C m) : ∀ c, RectI C (barTo m c).m ∧ (barTo m c).m.length = m.length ∧ (barTo m c).lead.length ≤ m.length
  | 0 => ⟨h, rfl, Nat.zero_le _⟩
  | c + 1 => by
    obtain ⟨h1, h2, h3⟩ := barTo_shape h c
    obtain ⟨k1, k2, k3⟩ := stepE_shape (c := c) h1 (by omega)
    exact ⟨k1, by show (stepE c (barTo m c)).m.length = _; omega, by show (stepE c (barTo m c)).lead.length ≤ _; omega⟩
theorem stepE_full {c:Nat} {s:ElS} (h:s.lead.length=s.m.length):stepE c s=s:=by
 unfold stepE
 simp only
 rw [h,Nat.sub_self]
 exact if_pos rfl
theorem barTo_full {C : Nat} {m : List (List Int)} (hr : RectI C m) {c : Nat} (h : (barTo m c).lead.length = m.length) : ∀ d, barTo m (c + d) = barTo m c
  | 0 => rfl
  | d + 1 => by
    show stepE (c + d) (barTo m (c + d)) = _
    rw [barTo_full hr h d]
    exact stepE_full (by rw [h, (barTo_shape hr c).2.1])
structure MidE (w0 wr:World) (g0 D:Nat) (tags0:List (Nat×Nat)) (m:List (List Int)) (v:Value) (ld:List Nat) (tags:List (Nat×Nat)):Prop where
 mat:MatN wr g0 tags m
 lead:OwnI D wr v ld
 same:∀ b,blocksQ g0 tags b↔blocksQ g0 tags0 b
 grown:GrownS (blocksQ g0 tags0) w0 wr
 size:D≤wr.heap.size
theorem MidE.ext {w0 wr w':World} {g0 D:Nat} {tags0:List (Nat×Nat)} {m:List (List Int)} {v:Value} {ld:List Nat} {tags:List (Nat×Nat)} (h:MidE w0 wr g0 D tags0 m v ld tags) (he:Ext wr w'):MidE w0 w' g0 D tags0 m v ld tags :=
 ⟨h.mat.ext he,h.lead.ext he,h.same,h.grown.trans (he.grownS _),Nat.le_trans h.size he.size⟩
theorem MidE.setEl {w0 wr:World} {g0 D:Nat} {tags0:List (Nat×Nat)} {m:List (List Int)} {v:Value} {ld:List Nat} {tags:List (Nat×Nat)} (h:MidE w0 wr g0 D tags0 m v ld tags) (hb:∀ b,blocksQ g0 tags b→b<D)
  {i j:Nat} {t:Nat×Nat} {r:List Int} (ht:tags[i]?=some t) (hr:m[i]?=some r) (hj:j<r.length) (q:Int) :
  MidE w0 (wr.setCell ⟨t.1,j,none⟩ (.string (intB q))) g0 D tags0 (m.set i (r.set j q)) v ld tags:=by
 have hgr:GrownS (·=t.1) wr (wr.setCell ⟨t.1,j,none⟩ (.string (intB q))):=(GrownS.refl (·=t.1) wr).store (S:=(·=t.1)) rfl _ _
 obtain ⟨t',ht',-,-,-,hR,hne,hbq⟩:=h.mat.get hr
 obtain rfl:t'=t:=Option.some.inj (ht'.symm.trans ht)
 have hlt:=hb _ hbq
 exact ⟨h.mat.setRow ht hr (by rw [List.length_set]) hgr (hR.set j hj q),h.lead.grown hgr (fun b e=>by omega),h.same,h.grown.trans (hgr.weak fun b _ e=>by rw [e];exact (h.same _).1 hbq),by rw [setCell_sizeQ];exact h.size⟩
theorem MidE.push {w0 wr w':World} {g0 D:Nat} {tags0:List (Nat×Nat)} {m:List (List Int)} {v v':Value} {ld ld':List Nat} {tags:List (Nat×Nat)} (h:MidE w0 wr g0 D tags0 m v ld tags) (hb:∀ b,blocksQ g0 tags b→b<D) (hD:w0.heap.size≤D)
  (hB:Below D wr w') (hv:OwnI D w' v' ld'):MidE w0 w' g0 D tags0 m v' ld' tags:=by
 have hgr:GrownS (fun b=>D≤b) wr w':=⟨hB.os,hB.tape,hB.output,hB.size,fun k hk hn=>hB.block k (by omega)⟩
 exact ⟨h.mat.grown hgr (fun b hb' e=>by have:=hb b hb';omega),hv,h.same,grown_new h.grown hgr (fun b e=>.inl (by omega)),Nat.le_trans h.size hB.size⟩
theorem MidE.swap {w0 wr:World} {g0 D C:Nat} {tags0:List (Nat×Nat)} {m:List (List Int)} {v:Value} {ld:List Nat} {tags:List (Nat×Nat)} (h:MidE w0 wr g0 D tags0 m v ld tags) (hb:∀ b,blocksQ g0 tags0 b→b<D) (hr:RectI C m) {k a:Nat} (hk:k<m.length) (ha:a<m.length) :
  ∃ s t,tags[k]?=some s∧tags[a]?=some t∧wr.cell? ⟨g0,k,none⟩=some (.slice (some ⟨s.1,0,none⟩) C s.2)∧wr.cell? ⟨g0,a,none⟩=some (.slice (some ⟨t.1,0,none⟩) C t.2)∧wr.frozen? ⟨g0,k,none⟩=false∧wr.frozen? ⟨g0,a,none⟩=false∧C≤s.2∧C≤t.2∧s.2≤9223372036854775807∧t.2≤9223372036854775807 ∧
   MidE w0 ((wr.setCell ⟨g0,k,none⟩ (.slice (some ⟨t.1,0,none⟩) C t.2)).setCell ⟨g0,a,none⟩ (.slice (some ⟨s.1,0,none⟩) C s.2)) g0 D tags0 (swp m k a) v ld (swp tags k a) ∧
   MidE w0 ((wr.setCell ⟨g0,a,none⟩ (.slice (some ⟨s.1,0,none⟩) C s.2)).setCell ⟨g0,k,none⟩ (.slice (some ⟨t.1,0,none⟩) C t.2)) g0 D tags0 (swp m a k) v ld (swp tags a k):=by
 have hk2:=List.getElem?_eq_getElem hk
 have ha2:=List.getElem?_eq_getElem ha
 obtain ⟨s,hs,c1,h1,h2,-⟩:=h.mat.get hk2
 obtain ⟨t,ht,c3,h3,h4,-⟩:=h.mat.get ha2
 have e1:=hr _ (List.mem_of_getElem? hk2)
 have e2:=hr _ (List.mem_of_getElem? ha2)
 have hsw:=h.mat.swap hs ht hk2 ha2
 have hsw2:=h.mat.swap ht hs ha2 hk2
 rw [e1] at c1 h1 hsw hsw2
 rw [e2] at c3 h3 hsw hsw2
 have hgr:∀ i j x y,GrownS (·=g0) wr ((wr.setCell ⟨g0,i,none⟩ x).setCell ⟨g0,j,none⟩ y):=fun i j x y=>((GrownS.refl (·=g0) wr).store (S:=(·=g0)) rfl _ _).store (S:=(·=g0)) rfl _ _
 have hg0:blocksQ g0 tags0 g0:=List.mem_cons_self ..
 have hgl:=hb g0 hg0
 refine ⟨s,t,hs,ht,c1,c3,h.mat.free k,h.mat.free a,h1,h3,h2,h4,⟨hsw,h.lead.grown (hgr _ _ _ _) (fun b e=>by omega),fun b=>(swp_blocks hs ht).trans (h.same b),h.grown.trans ((hgr _ _ _ _).weak fun b _ e=>by rw [e];exact hg0),by rw [setCell_sizeQ,setCell_sizeQ];exact h.size⟩,
  ⟨hsw2,h.lead.grown (hgr _ _ _ _) (fun b e=>by omega),fun b=>(swp_blocks ht hs).trans (h.same b),h.grown.trans ((hgr _ _ _ _).weak fun b _ e=>by rw [e];exact hg0),by rw [setCell_sizeQ,setCell_sizeQ];exact h.size⟩⟩
theorem swp_comm {α:Type} (l:List α) (i j:Nat):swp l i j=swp l j i:=by
 by_cases h:i<l.length∧j<l.length
 ·have hi:=List.getElem?_eq_getElem h.1
  have hj:=List.getElem?_eq_getElem h.2
  apply List.ext_getElem?
  intro k
  rw [swp_get hi hj,swp_get hj hi]
  by_cases e1:k=j
  ·by_cases e2:k=i
   ·rw [if_pos e1,if_pos e2]
    subst e1;subst e2;rfl
   ·rw [if_pos e1,if_neg e2,if_pos e1]
  ·rw [if_neg e1]
   by_cases e2:k=i
   ·rw [if_pos e2,if_pos e2]
   ·rw [if_neg e2,if_neg e2,if_neg e1]
 ·unfold swp
  by_cases h1:i<l.length
  ·rw [List.getElem?_eq_getElem h1,List.getElem?_eq_none (show l.length≤j by omega)]
  ·rw [List.getElem?_eq_none (show l.length≤i by omega)]
   cases l[j]? <;> rfl
structure ElOK (m:List (List Int)) (n:Nat):Prop where
 sz:∀ c,c≤n→∀ i j,(intB (elI (barTo m c).m i j)).size≤6000
 lsz:∀ c,c≤n→(intB (barTo m c).last).size≤6000
 ne:∀ c,c≤n→(barTo m c).last≠0
 dvd:∀ c a,c<n→(barTo m c).lead.length≤a→a<m.length→elI (barTo m c).m a c≠0→(∀ j,(barTo m c).lead.length≤j→j<a→elI (barTo m c).m j c=0)→∀ m1,m1=(if a=(barTo m c).lead.length then (barTo m c).m else swp (barTo m c).m (barTo m c).lead.length a) →
  ∀ i j,elI m1 (barTo m c).lead.length c*elI m1 i j-elI m1 i c*elI m1 (barTo m c).lead.length j=(barTo m c).last*((elI m1 (barTo m c).lead.length c*elI m1 i j-elI m1 i c*elI m1 (barTo m c).lead.length j) / (barTo m c).last)
theorem barI_dvd {C c K:Nat} {m:List (List Int)} {E:ElS} {S:RedSt} (hK:1≤K) (hm:∀ i j,IntLe K (elQ (matQ m) i j)) (hRS:Rect C S.m) (h:BarI C c m E S) {a:Nat} (ha1:E.lead.length≤a) (hal:a<m.length) (hpe:elI E.m a c≠0)
  (hf0:∀ j,E.lead.length≤j→j<a→elI E.m j c=0) {m1:List (List Int)} (hm1:m1=if a=E.lead.length then E.m else swp E.m E.lead.length a) (i j:Nat) :
  E.last ∣ (elI m1 E.lead.length c*elI m1 i j-elI m1 i c*elI m1 E.lead.length j):=by
 obtain ⟨ρ,sg,x,hI,hD⟩:=h.inv
 have hlen:=h.len
 have h2:(E.last:Rat)≠0:=by
  intro h0
  have:E.last=0:=by exact_mod_cast h0
  exact h.ne this
 have hzero:∀ i j,elI E.m i j=0↔elQ S.m i j=0:=fun i j=>by
  have:=h.el i j
  constructor
  ·intro h0
   rw [h0] at this
   rcases Rat.mul_eq_zero.1 (show (E.last:Rat)*elQ S.m i j=0 by rw [← this];rfl) with h3 | h3
   ·exact absurd h3 h2
   ·exact h3
  ·intro h0
   rw [h0,Rat.mul_zero] at this
   exact_mod_cast this
 obtain ⟨k,hk⟩:∃ k,k=E.lead.length:=⟨_,rfl⟩
 have hkS:k=S.lead.length:=by rw [hk,h.lead]
 rw [← hk] at ha1 hf0 hm1 ⊢
 rcases redI_stepX hI hRS with ⟨-,hz,-⟩ | ⟨b,hb1,hb2,hbne,hbfirst,hlead,hdet,hel,ρ',sg',x',hI',hD'⟩
 ·exact absurd ((hzero a c).2 (hz a (by omega))) hpe
 ·obtain rfl:b=a:=by
   rcases Nat.lt_trichotomy b a with h1 | h1 | h1
   ·exact absurd ((hzero b c).1 (hf0 b (by omega) h1)) hbne
   ·exact h1
   ·exact absurd ((hzero a c).2 (hbfirst a (by omega) h1)) hpe
  rw [← hkS] at hel hD'
  have hkl:k<E.m.length:=by omega
  have e1:∀ i j,elI m1 i j=elI E.m (trJ k b i) j:=fun i j=>by
   rw [hm1]
   by_cases e:b=k
   ·rw [if_pos e,e,trJ_self]
   ·rw [if_neg e];exact elI_swp hkl (by omega) i j
  have htk:trJ k b k=b:=by unfold trJ;rw [if_pos rfl]
  by_cases hik:i=k
  ·rw [hik,Int.sub_self];exact Int.dvd_zero _
  ·by_cases hil:i<m.length
   ·obtain ⟨p,hp⟩:∃ p,p=elI m1 k c:=⟨_,rfl⟩
    have hpc:(p:Rat)=(E.last:Rat)*elQ S.m b c:=by rw [hp,e1,htk];exact h.el b c
    have hpD:(p:Rat)=detF (stepR c S).lead.length fun i b=>elQ (matQ m) (ρ' i) (kapQ (stepR c S).lead b):=by
     rw [show (stepR c S).lead.length=k+1 by rw [hlead,List.length_append,← hkS];rfl,hD',hpc,hD,← hkS];grind
    obtain ⟨z,hz,-⟩:=red_int hI' hm hK i j
    rw [← hpD] at hz
    refine ⟨z,?_⟩
    rw [← hp]
    have hq:((p*elI m1 i j-elI m1 i c*elI m1 k j:Int):Rat)=((E.last*z:Int):Rat):=by
     rw [Rat.intCast_sub,Rat.intCast_mul,Rat.intCast_mul,Rat.intCast_mul,← hz,e1,e1,e1,htk,h.el,h.el,h.el,hel,if_neg hik,hpc]
     have:elQ S.m b c*(elQ S.m b j / elQ S.m b c)=elQ S.m b j:=by rw [Rat.div_def,Rat.mul_comm (elQ S.m b j),← Rat.mul_assoc,Rat.mul_inv_cancel _ hbne,Rat.one_mul]
     grind
    exact_mod_cast hq
   ·have hl1:m1.length=E.m.length:=by
     rw [hm1];split
     ·rfl
     ·exact swp_length _ _ _
    rw [elI_out (m:=m1) (i:=i) (x:=j) (by omega),elI_out (m:=m1) (i:=i) (x:=c) (by omega),Int.mul_zero,Int.zero_mul,Int.sub_self]
    exact Int.dvd_zero _
theorem det_size {z:Int} {k:Nat} (hk:k≤13) (h:z.natAbs≤detK 1000000000 k):(intB z).size≤131:=by
 have h1:IntLe (detK 1000000000 13) (z:Rat):=⟨z,rfl,Nat.le_trans h (detK_mono (by omega) hk)⟩
 have h2:=h1.rs.1
 rw [show ((z:Rat)).num=z from rfl] at h2
 exact h2
theorem elOK_of {C:Nat} {m:List (List Int)} (hr:RectI C m) (hl:m.length≤12) (hm:∀ i j,IntLe 1000000000 (elQ (matQ m) i j)) (n:Nat):ElOK m n where
 sz:=fun c _ i j=>Nat.le_trans (det_size (k:=m.length+1) (by omega) (((barI_all (by omega) hm hr c).small (by omega) hm).1 i j)) (by omega)
 lsz:=fun c _=>Nat.le_trans (det_size (k:=m.length+1) (by omega) ((barI_all (by omega) hm hr c).small (by omega) hm).2) (by omega)
 ne:=fun c _=>(barI_all (by omega) hm hr c).ne
 dvd:=fun c a _ h1 h2 h3 h4 m1 hm1 i j=>by
  have hB:=barI_all (K:=1000000000) (by omega) hm hr c
  exact (Int.mul_ediv_cancel' (barI_dvd (by omega) hm (redTo_shape (matQ_rectI hr) c).1 hB h1 h2 h3 h4 hm1 i j)).symm
def refDetI (m:List (List Int)):Int:=if (barTo m m.length).lead.length<m.length then 0 else if (barTo m m.length).odd then-(barTo m m.length).last else (barTo m m.length).last
theorem refDet_eq {m:List (List Int)} (hr:RectI m.length m) (hm:∀ i j,IntLe 1000000000 (elQ (matQ m) i j)):((refDetI m:Int):Rat)=(redTo (matQ m) m.length).det:=by
 have h:=barI_all (K:=1000000000) (by omega) hm hr m.length
 obtain ⟨ρ,sg,x,hI,-⟩:=h.inv
 unfold refDetI
 by_cases h1:(barTo m m.length).lead.length<m.length
 ·rw [if_pos h1,hI.det,if_neg (by rw [← h.lead];omega)];rfl
 ·have h2:(redTo (matQ m) m.length).lead.length=m.length:=by have:=hI.rle;rw [h.lead] at h1;omega
  rw [if_neg h1,h.det h2]
  cases (barTo m m.length).odd
  ·rw [if_neg (by decide),if_neg (by decide)];grind
  ·rw [if_pos rfl,if_pos rfl,Rat.intCast_neg];grind
end Go.Proofs.YtjlkkofmojgipaaGreatDoor
namespace Go.Proofs.YtjlkkofmojgipaaGreatDoor
set_option linter.unusedVariables false
set_option linter.unusedSimpArgs false
end Go.Proofs.YtjlkkofmojgipaaGreatDoor
namespace Go.Proofs.YtjlkkofmojgipaaGreatDoor
set_option linter.unusedVariables false
set_option linter.unusedSimpArgs false
open Go.RowKit
theorem tabR_okF {n : Nat} : ∀ {l : List (List Int)}, (∀ r ∈ l, r.length = n ∧ n ≤ 12 ∧ Fit9 r) → tabR n l = 0
  | [], _ => rfl
  | r :: l, h => by
    obtain ⟨h1, h2, h3⟩ := h r (by simp)
    unfold tabR
    rw [if_neg (by omega), if_pos h1, if_neg (by
      rw [Bool.not_eq_true, List.any_eq_false]
      intro x hx
      have := (fitB_iff x).2 (h3 x hx)
      simp [this])]
    exact tabR_okF fun q hq => h q (by simp [hq])
theorem tabE_of {xss : List (List Int)} {n : Nat} (hl : xss.length ≤ 12) (h : ∀ r ∈ xss, r.length = n ∧ n ≤ 12 ∧ Fit9 r) : tabE xss = 0 := by
  unfold tabE
  rw [if_neg (by omega)]
  cases xss with
  | nil => rfl
  | cons r l =>
    have e : ((r :: l).headD []).length = n := (h r (by simp)).1
    rw [e]
    exact tabR_okF h
theorem colsN_of {xss:List (List Int)} {n:Nat} (h:∀ r∈xss,r.length=n) (hne:xss≠[]):colsN xss=n:=by
 cases xss with
 | nil=>exact absurd rfl hne
 | cons r l=>exact h r (by simp)
theorem part_fit {xss:List (List Int)} (hE:tabE xss=0) (R S:List Nat):∀ r∈partI xss R S,∀ a∈r,-1000000000≤a∧a≤1000000000:=by
 intro r hr a ha
 unfold partI at hr
 obtain ⟨i,-,rfl⟩:=List.mem_map.1 hr
 obtain ⟨j,-,rfl⟩:=List.mem_map.1 ha
 have h:=matQ_el (xss:=xss) (fun r hr=>((tabE_zero hE).2 r hr).2.2) i j
 obtain ⟨z,h1,h2⟩:=h
 rw [matQ_elI] at h1
 have h3:elI xss i j=z:=congrArg Rat.num h1
 have h4:(xss.getD i []).getD j 0=z:=h3
 rw [h4];omega
theorem minors_small {xss:List (List Int)} (hE:tabE xss=0) {k:Nat} (hk1:k≤xss.length) (hk2:k≤colsN xss) :
  ∀ R∈setsL xss.length k,∀ S∈setsL (colsN xss) k,∀ c,c<k→AllRS 2500 (redTo (matQ (partI xss R S)) c).m∧RS 9000 (redTo (matQ (partI xss R S)) c).det:=by
 intro R hR S hS c _
 obtain ⟨hl,hrr⟩:=tabE_zero hE
 obtain ⟨s1,-,-⟩:=sets_ok (n:=xss.length) hl hk1
 exact red_small (partI_rect xss R S) (by rw [matQ_len,partI_len,s1.len R hR];omega) (matQ_el (part_fit hE R S)) c
theorem part_tab {xss:List (List Int)} (hE:tabE xss=0) {k:Nat} {R S:List Nat} (hR:R.length=k) (hS:S.length=k) (hk:k≤12):tabE (partI xss R S)=0:=by
 refine tabE_of (n:=k) (by rw [partI_len];omega) fun r hr=>⟨?_,hk,fun a ha=>part_fit hE R S r hr a ha⟩
 unfold partI at hr
 obtain ⟨i,-,rfl⟩:=List.mem_map.1 hr
 rw [List.length_map];exact hS
theorem part_cols {xss:List (List Int)} {k:Nat} {R S:List Nat} (hR:R.length=k) (hS:S.length=k):colsN (partI xss R S)=(partI xss R S).length:=by
 rw [partI_len,hR]
 by_cases h0:k=0
 ·subst h0
  obtain rfl:=List.eq_nil_of_length_eq_zero hR
  rfl
 ·refine colsN_of (fun r hr=>?_) (fun e=>?_)
  ·unfold partI at hr
   obtain ⟨i,-,rfl⟩:=List.mem_map.1 hr
   rw [List.length_map];exact hS
  ·have:=partI_len xss R S
   rw [e] at this
   simp at this;omega
theorem ref_minor {xss:List (List Int)} (hE:tabE xss=0) {k:Nat} {R S:List Nat} (hR:R.length=k) (hS:S.length=k):refDetI (partI xss R S)=minorOf xss k R S:=by
 have hl:(partI xss R S).length=k:=by rw [partI_len];exact hR
 have h:=refDet_eq (m:=partI xss R S) (fun r hr=>by
  rw [hl]
  unfold partI at hr
  obtain ⟨i,-,rfl⟩:=List.mem_map.1 hr
  rw [List.length_map];exact hS) (matQ_el (part_fit hE R S))
 rw [hl] at h
 unfold minorOf
 rw [← h]
 rfl
def minAB (xss:List (List Int)) (k:Nat) (A B:List (List Nat)) (i j:Nat):List Int :=
 ((A.take i).flatMap fun R=>B.map fun S=>minorOf xss k R S)++(match A[i]? with | some R=>(B.take j).map fun S=>minorOf xss k R S | none=>[])
theorem minAB_zero (xss:List (List Int)) (k:Nat) (A B:List (List Nat)):minAB xss k A B 0 0=[]:=by
 unfold minAB
 cases A[0]? <;> simp
theorem minAB_step {xss:List (List Int)} {k:Nat} {A B:List (List Nat)} {i j:Nat} {R S:List Nat} (hR:A[i]?=some R) (hS:B[j]?=some S):minAB xss k A B i (j+1)=minAB xss k A B i j++[minorOf xss k R S]:=by
 unfold minAB
 rw [hR]
 simp only
 rw [List.take_add_one,hS,List.map_append,List.append_assoc]
 rfl
theorem minAB_row {xss:List (List Int)} {k:Nat} {A B:List (List Nat)} {i:Nat} {R:List Nat} (hR:A[i]?=some R):minAB xss k A B i B.length=minAB xss k A B (i+1) 0:=by
 unfold minAB
 rw [hR,List.take_length,List.take_add_one,hR,List.flatMap_append]
 have:(match A[i+1]? with | some R=>(B.take 0).map fun S=>minorOf xss k R S | none=>([]:List Int))=[]:=by cases A[i+1]? <;> rfl
 rw [this,List.append_nil]
 simp
theorem minAB_end {xss:List (List Int)} {k:Nat} {A B:List (List Nat)}:minAB xss k A B A.length 0=A.flatMap fun R=>B.map fun S=>minorOf xss k R S:=by
 unfold minAB
 rw [List.take_length,List.getElem?_eq_none (Nat.le_refl _)]
 simp
end Go.Proofs.YtjlkkofmojgipaaGreatDoor
