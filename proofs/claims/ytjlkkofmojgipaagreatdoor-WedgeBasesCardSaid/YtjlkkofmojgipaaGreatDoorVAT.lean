import Derived.Test.YtjlkkofmojgipaaGreatDoorVAJ
import Derived.Test.YtjlkkofmojgipaaGreatDoorVAK
import Derived.Test.YtjlkkofmojgipaaGreatDoorVAM
import Derived.Test.YtjlkkofmojgipaaGreatDoorVAL
import Derived.Test.YtjlkkofmojgipaaGreatDoorVAI
import Derived.Test.YtjlkkofmojgipaaGreatDoorVAE
import Derived.Test.YtjlkkofmojgipaaGreatDoorVAN
import Derived.Test.YtjlkkofmojgipaaGreatDoorVAQ
import Derived.Test.YtjlkkofmojgipaaGreatDoorVAS
import Derived.Test.YtjlkkofmojgipaaGreatDoorVAA
import Derived.Test.YtjlkkofmojgipaaGreatDoorProg
set_option linter.unusedVariables false
set_option linter.unusedSimpArgs false
set_option maxRecDepth 1000000
set_option maxHeartbeats 4000000
namespace Go.Proofs.YtjlkkofmojgipaaGreatDoor
open Go.RowKit Go.Proofs.Tryz
structure cP (w:World) (g:Nat) (xs:og):Prop where
 lt:g<w.heap.size
 cell:∀ (j:Nat) x,xs[j]?=some x->w.cell? ⟨g,j,none⟩=some (.string (aB x))
 free:∀ j,w.frozen? ⟨g,j,none⟩=false
theorem cP.same {w w':World} {g:Nat} {xs:og} (h:cP w g xs) (hs:w.heap.size<=w'.heap.size) (hg:w'.heap[g]?=w.heap[g]?):cP w' g xs :=
 ⟨oI h.lt hs,fun j x hx=>(ir hg _).trans (h.cell j x hx),fun j=>(kd hg j).trans (h.free j)⟩
theorem cP.ext {w w':World} {g:Nat} {xs:og} (h:cP w g xs) (he:aA w w'):cP w' g xs:=h.same he.size (he.block g h.lt)
theorem cP.grown {w w':World} {S:Nat->Prop} {g:Nat} {xs:og} (h:cP w g xs) (hg:aG S w w') (hS:¬ S g):cP w' g xs:=h.same hg.size (hg.block g h.lt hS)
theorem cP.set {w:World} {g:Nat} {xs:og} (h:cP w g xs) (k:Nat) (hk:k<xs.length) (y:Int):cP (w.setCell ⟨g,k,none⟩ (.string (aB y))) g (xs.set k y):=by
 refine ⟨by rw [db];exact h.lt,fun j x hx=>?_,fun j=>by rw [jw];exact h.free j⟩;rw [oW] at hx;by_cases hj:k=j
 ·subst hj;rw [if_pos rfl,if_pos hk] at hx;cases hx;exact World.cell?_setCell_same w _ _ (h.cell k xs[k] (oB hk))
 ·rw [if_neg hj] at hx;rw [World.cell?_setCell_other w _ _ _ (by intro e;simp only [Addr.mk.injEq] at e;omega)];exact h.cell j x hx
def mF:gd Int:=⟨cP,fun h=>h.lt,fun h hs hg=>h.same hs hg⟩
structure dJ (w:World) (g0:Nat) (tags:List (Nat×Nat)) (m:oe):Prop where
 len:tags.length=m.length
 lt:g0<w.heap.size
 free:∀ j,w.frozen? ⟨g0,j,none⟩=false
 row:∀ (i:Nat) t r,tags[i]?=some t->m[i]?=some r->w.cell? ⟨g0,i,none⟩=some (.slice (some ⟨t.1,0,none⟩) r.length t.2)/\r.length<=t.2/\t.2<=9223372036854775807/\cP w t.1 r
 nodup:(g0::tags.map (·.1)).Nodup
theorem dJ.same {w w':World} {g0:Nat} {tags:List (Nat×Nat)} {m:oe} (h:dJ w g0 tags m) (hs:w.heap.size<=w'.heap.size) (hb:∀ b,bV g0 tags b->w'.heap[b]?=w.heap[b]?):dJ w' g0 tags m:=by
 have h0:=hb g0 (List.mem_cons_self ..);refine ⟨h.len,oI h.lt hs,fun j=>(kd h0 j).trans (h.free j),fun i t r ht hr=>?_,h.nodup⟩;obtain ⟨h1,h2,h3,h4⟩:=h.row i t r ht hr;exact ⟨(ir h0 i).trans h1,h2,h3,h4.same hs (hb t.1 (List.mem_cons_of_mem _ (List.mem_map.2 ⟨t,oE ht,rfl⟩)))⟩
theorem dJ.blt {w:World} {g0:Nat} {tags:List (Nat×Nat)} {m:oe} (h:dJ w g0 tags m) {b:Nat} (hb:bV g0 tags b):b<w.heap.size:=by
 rcases List.mem_cons.1 hb with rfl | hb;·exact h.lt
 ·obtain ⟨t,ht,rfl⟩:=List.mem_map.1 hb;obtain ⟨i,hi⟩:=List.getElem?_of_mem ht;have hl:i<m.length:=by rw [<- h.len];exact (oC.1 hi).1
  exact (h.row i t m[i] hi (oB hl)).2.2.2.lt
theorem dJ.ext {w w':World} {g0:Nat} {tags:List (Nat×Nat)} {m:oe} (h:dJ w g0 tags m) (he:aA w w'):dJ w' g0 tags m :=
 h.same he.size fun b hb=>he.block b (h.blt hb)
theorem dJ.grown {w w':World} {S:Nat->Prop} {g0:Nat} {tags:List (Nat×Nat)} {m:oe} (h:dJ w g0 tags m) (hg:aG S w w') (hS:∀ b,bV g0 tags b->¬ S b):dJ w' g0 tags m :=
 h.same hg.size fun b hb=>hg.block b (h.blt hb) (hS b hb)
theorem dJ.get {w:World} {g0:Nat} {tags:List (Nat×Nat)} {m:oe} (h:dJ w g0 tags m) {i:Nat} {r:og} (hr:m[i]?=some r) :
  ∃ t,tags[i]?=some t/\w.cell? ⟨g0,i,none⟩=some (.slice (some ⟨t.1,0,none⟩) r.length t.2)/\r.length<=t.2/\t.2<=9223372036854775807/\cP w t.1 r/\t.1≠g0/\bV g0 tags t.1:=by
 have hi:=(oC.1 hr).1;have hl:i<tags.length:=by rw [h.len];exact hi
 have:=h.row i tags[i] r (oB hl) hr;refine ⟨tags[i],oB hl,this.1,this.2.1,this.2.2.1,this.2.2.2,?_,List.mem_cons_of_mem _ (List.mem_map.2 ⟨tags[i],List.getElem_mem hl,rfl⟩)⟩;have hn:=(List.nodup_cons.1 h.nodup).1;intro e2;exact hn (List.mem_map.2 ⟨tags[i],List.getElem_mem hl,e2⟩)
theorem dJ.apart {w:World} {g0:Nat} {tags:List (Nat×Nat)} {m:oe} (h:dJ w g0 tags m) {i j:Nat} {s t:Nat×Nat} (hs:tags[i]?=some s) (ht:tags[j]?=some t) (pY:i≠j):s.1≠t.1:=by
 have hn:=(List.nodup_cons.1 h.nodup).2;intro e;have h1:(tags.map (·.1))[i]?=some s.1:=by rw [oF,hs];rfl
 have h2:(tags.map (·.1))[j]?=some s.1:=by rw [oF,ht,e];rfl
 obtain ⟨l1,e1⟩:=oC.1 h1;obtain ⟨l2,e2⟩:=oC.1 h2;exact pY ((List.getElem_inj hn).1 (e1.trans e2.symm))
theorem dJ.setRow {w w':World} {g0:Nat} {tags:List (Nat×Nat)} {m:oe} (h:dJ w g0 tags m) {i:Nat} {t:Nat×Nat} {r r0:og} (ht:tags[i]?=some t) (vl:m[i]?=some r0) (hr:r.length=r0.length) (hg:aG (·=t.1) w w') (hR:cP w' t.1 r):dJ w' g0 tags (m.set i r):=by
 have hi:=(oC.1 vl).1;obtain ⟨t',rO,-,-,-,-,hne,-⟩:=h.get vl;obtain rfl:t'=t:=oM (rO.symm.trans ht);have h0:=hg.block g0 h.lt (fun e=>hne e.symm);refine ⟨by rw [List.length_set];exact h.len,oI h.lt hg.size,fun j=>(kd h0 j).trans (h.free j),fun j s q hs hq=>?_,h.nodup⟩;rw [oW] at hq;by_cases hj:i=j
 ·subst hj;rw [if_pos rfl,if_pos hi] at hq;cases hq;obtain rfl:s=t':=oM (hs.symm.trans ht);obtain ⟨h1,h2,h3,h4⟩:=h.row i s r0 hs vl;rw [<- hr] at h1 h2;exact ⟨(ir h0 i).trans h1,h2,h3,hR⟩
 ·rw [if_neg hj] at hq;obtain ⟨h1,h2,h3,h4⟩:=h.row j s q hs hq;exact ⟨(ir h0 j).trans h1,h2,h3,h4.grown hg (h.apart hs ht (fun e=>hj e.symm))⟩
theorem dJ.swap {w:World} {g0:Nat} {tags:List (Nat×Nat)} {m:oe} (h:dJ w g0 tags m) {i j:Nat} {s t:Nat×Nat} {p q:og} (hs:tags[i]?=some s) (ht:tags[j]?=some t) (hp:m[i]?=some p) (hq:m[j]?=some q) :
  dJ ((w.setCell ⟨g0,i,none⟩ (.slice (some ⟨t.1,0,none⟩) q.length t.2)).setCell ⟨g0,j,none⟩ (.slice (some ⟨s.1,0,none⟩) p.length s.2)) g0 (bE tags i j) (bE m i j):=by
 have hgr:aG (·=g0) w ((w.setCell ⟨g0,i,none⟩ (.slice (some ⟨t.1,0,none⟩) q.length t.2)).setCell ⟨g0,j,none⟩ (.slice (some ⟨s.1,0,none⟩) p.length s.2)):=((aG.refl (·=g0) w).store (S:=(·=g0)) rfl _ _).store (S:=(·=g0)) rfl _ _;have ci:=(h.row i s p hs hp).1;have cj:=(h.row j t q ht hq).1;refine ⟨by rw [h_,h_];exact h.len,by rw [db,db];exact h.lt,fun k=>by rw [jw,jw];exact h.free k,fun k u r hu hr=>?_,?_⟩
 ·rw [fO hs ht] at hu;rw [fO hp hq] at hr;have hrow:∀ (k:Nat) u r,tags[k]?=some u->m[k]?=some r->cP ((w.setCell ⟨g0,i,none⟩ (.slice (some ⟨t.1,0,none⟩) q.length t.2)).setCell ⟨g0,j,none⟩ (.slice (some ⟨s.1,0,none⟩) p.length s.2)) u.1 r:=by
   intro k u r hu hr;obtain ⟨u',EX,-,-,-,hR,hne,-⟩:=h.get hr;obtain rfl:u'=u:=oM (EX.symm.trans hu);exact hR.grown hgr hne
  by_cases e1:k=j
  ·subst e1;rw [if_pos rfl] at hu hr;cases hu;cases hr;obtain ⟨_,h2,h3,_⟩:=h.row i s p hs hp;refine ⟨?_,h2,h3,hrow i s p hs hp⟩;by_cases e2:i=k
   ·subst e2;exact World.cell?_setCell_same _ _ _ (World.cell?_setCell_same w _ _ ci)
   ·exact World.cell?_setCell_same _ _ _ ((World.cell?_setCell_other _ _ _ _ (by intro e;simp only [Addr.mk.injEq] at e;omega)).trans cj)
  ·rw [if_neg e1] at hu hr;by_cases e2:k=i
   ·subst e2;rw [if_pos rfl] at hu hr;cases hu;cases hr;obtain ⟨_,h2,h3,_⟩:=h.row j t q ht hq;refine ⟨?_,h2,h3,hrow j t q ht hq⟩;rw [World.cell?_setCell_other _ _ _ _ (by intro e;simp only [Addr.mk.injEq] at e;omega)];exact World.cell?_setCell_same w _ _ ci
   ·rw [if_neg e2] at hu hr;obtain ⟨h1,h2,h3,_⟩:=h.row k u r hu hr;refine ⟨?_,h2,h3,hrow k u r hu hr⟩;rw [World.cell?_setCell_other _ _ _ _ (by intro e;simp only [Addr.mk.injEq] at e;omega),World.cell?_setCell_other _ _ _ _ (by intro e;simp only [Addr.mk.injEq] at e;omega)];exact h1
 ·have hn:=List.nodup_cons.1 h.nodup;rw [Z3p];refine List.nodup_cons.2 ⟨?_,m0_ hn.2 i j⟩;intro hm;refine hn.1 ?_;obtain ⟨k,hk⟩:=List.getElem?_of_mem hm;have a1:(tags.map (·.1))[i]?=some s.1:=by rw [oF,hs];rfl
  have a2:(tags.map (·.1))[j]?=some t.1:=by rw [oF,ht];rfl
  rw [fO a1 a2] at hk;by_cases e1:k=j;·rw [if_pos e1] at hk;cases hk;exact oE a1
  ·rw [if_neg e1] at hk;by_cases e2:k=i;·rw [if_pos e2] at hk;cases hk;exact oE a2
   ·rw [if_neg e2] at hk;exact oE hk
theorem bf.matN {e:TypeId} {w:World} {ob base:Nat} {g cap:Nat} {tags:List (Nat×Nat)} {m:oe} (h:bf mF e w ob base (.slice (some ⟨g,0,none⟩) m.length cap) tags m) (hob:base<=ob) :
  dJ w g tags m/\m.length<=cap/\cap<=9223372036854775807/\∀ b,bV g tags b->base<=b:=by
 obtain ⟨h1,h2,h3,h4,h5,h6,h7⟩:=h.parts;refine ⟨⟨h.len,h2,h3,h4,h5⟩,h6,h7,fun b hb=>?_⟩;rcases List.mem_cons.1 hb with rfl | hb;·exact oJ hob h1
 ·exact (h.fresh hb).1
theorem v2_ (u:Nat):cQ (u:Int)=1:=if_neg (by omega)
theorem v3_ {u:Nat} (h:u≠0):cQ (-(u:Int))=-1:=if_pos (by omega)
theorem Z65 (x y:Int):dM (cQ x != cQ y) (x.natAbs / y.natAbs)=x.tdiv y:=by
 obtain ⟨u,rfl | rfl⟩:=x.eq_nat_or_neg <;> obtain ⟨v,rfl | rfl⟩:=y.eq_nat_or_neg
 ·rw [v2_,v2_,Int.natAbs_natCast,Int.natAbs_natCast,<- Int.ofNat_tdiv];rfl
 ·rw [Int.natAbs_neg,Int.natAbs_natCast,Int.natAbs_natCast,Int.tdiv_neg,<- Int.ofNat_tdiv];by_cases hv:v=0;·subst hv;simp [dM]
  ·rw [v2_,v3_ hv];rfl
 ·rw [Int.natAbs_neg,Int.natAbs_natCast,Int.natAbs_natCast,Int.neg_tdiv,<- Int.ofNat_tdiv];by_cases hu:u=0;·subst hu;simp [dM]
  ·rw [v2_,v3_ hu];rfl
 ·rw [Int.natAbs_neg,Int.natAbs_neg,Int.natAbs_natCast,Int.natAbs_natCast,Int.neg_tdiv_neg,<- Int.ofNat_tdiv];by_cases hu:u=0;·subst hu;simp [dM]
  ·by_cases hv:v=0;·subst hv;simp [dM]
   ·rw [v3_ hu,v3_ hv];rfl
theorem Z3u (x y:Int):dM (decide (cQ x<0)) (x.natAbs%y.natAbs)=x.tmod y:=by
 have hy:x.tmod y=x.tmod (y.natAbs:Int):=by
  rcases Int.natAbs_eq y with h | h;·rw [<- h]
  ·rw [h,Int.tmod_neg,Int.natAbs_neg,Int.natAbs_natCast]
 rw [hy];generalize y.natAbs=v;obtain ⟨u,rfl | rfl⟩:=x.eq_nat_or_neg <;> unfold dM cQ
 ·rw [if_neg (show ¬ (u:Int)<0 by omega),if_neg (by decide),Int.natAbs_natCast,<- Int.ofNat_tmod]
 ·rw [Int.natAbs_neg,Int.natAbs_natCast,Int.neg_tmod,<- Int.ofNat_tmod];by_cases hu:u=0;·subst hu;simp
  ·rw [if_pos (show -(u:Int)<0 by omega),if_pos (by decide)]
theorem Z6K (x y:Int) (h0:y≠0):(x.tmod y≠0/\cQ x≠cQ y->aN x y=x.tdiv y-1/\aq x y=x.tmod y+y)/\(¬ (x.tmod y≠0/\cQ x≠cQ y)->aN x y=x.tdiv y/\aq x y=x.tmod y):=by
 have key:x.tmod y≠0->((decide (x.tmod y<0)≠decide (y<0))↔cQ x≠cQ y):=by
  intro hr;have hs:=Z3u x y;unfold dM cQ at hs;unfold cQ;by_cases h1:x<0
  ·rw [if_pos h1,if_pos (by decide)] at hs;have h3:x.tmod y<0:=(by omega);by_cases h2:y<0 <;> simp [h1,h2,h3]
  ·rw [if_neg h1,if_neg (by decide)] at hs;have h3:¬ x.tmod y<0:=(by omega);by_cases h2:y<0 <;> simp [h1,h2,h3]
 unfold aN aq;constructor
 ·rintro ⟨h1,h2⟩;have:=(key h1).2 h2;rw [if_pos ⟨h1,this⟩,if_pos ⟨h1,this⟩];exact ⟨rfl,rfl⟩
 ·intro h;have:¬ (x.tmod y≠0/\decide (x.tmod y<0)≠decide (y<0)):=fun ⟨h1,h2⟩=>h ⟨h1,(key h1).1 h2⟩;rw [if_neg this,if_neg this];exact ⟨rfl,rfl⟩
theorem T9_ {x y:Int} (h:x.natAbs<=y.natAbs):(aB x).size<=(aB y).size+1:=by
 have h1:=er x;have h2:=iV h;have h3:=j7 y;omega
theorem o3_ (x y:Int) (w:World) (hx:(aB x).size<=13000) (hy:(aB y).size<=13000) (h0:y≠0) (ht:ae w) :
  oX 87 #[.string (aB x),.string (aB y)] w (.tuple #[.string (aB (aN x y)),.string (aB (aq x y))]):=by
 by_cases hsm:x.natAbs<1000000000000000000/\y.natAbs<1000000000000000000;·exact Z30 x y w (by omega) (by omega) h0 ht
 have HT:=oA ht;have hux:=j7 x;have huy:=j7 y;have H1:=oA (X3_ x w (by omega));have H2:Hid (∀ W,oX 126 #[.string (aB y)] W (.tuple #[.int .i64 (g_ y),.bool (ez y)])):=fun W=>X3_ y W (by omega);have hbb:ez x=false\/(ez x=true/\ez y=false):=by
  unfold ez;by_cases h1:x.natAbs<1000000000000000000;·exact .inr ⟨oT h1,oS (fun h2=>hsm ⟨h1,h2⟩)⟩
  ·exact .inl (oS h1)
 obtain ⟨vx,qg⟩:=oc (g_ x);obtain ⟨vy,zK⟩:=oc (g_ y);rw [<- qg] at H1;rw [<- zK] at H2;have HDX:Hid (∀ W,oY 115 #[.string (aB x)] W (.string (aE x.natAbs))):=fun W=>kE x W;have BI:Hid (∀ W,oY 115 #[.string (aB y)] W (.string (aE y.natAbs))):=fun W=>kE y W;obtain ⟨s1,hs1⟩:=oc (cQ x);obtain ⟨s2,hs2⟩:=oc (cQ y);have vb:Hid (∀ W,oY 128 #[.string (aB x)] W (.int .i64 s1)):=fun W=>by rw [hs1];exact mJ x W
 have HSY:Hid (∀ W,oY 128 #[.string (aB y)] W (.int .i64 s2)):=fun W=>by rw [hs2];exact mJ y W
 have HQ:Hid (dM (s1 != s2) (x.natAbs / y.natAbs)=x.tdiv y):=by unfold Hid;rw [hs1,hs2];exact Z65 x y
 have HR:Hid (dM (decide (s1<0)) (x.natAbs%y.natAbs)=x.tmod y):=by unfold Hid;rw [hs1];exact Z3u x y
 obtain ⟨BX,xZ⟩:=Z6K x y h0;rw [<- hs1,<- hs2] at BX xZ;have vO:(aB (x.tdiv y)).size<=13001:=by
  have:=T9_ (u0_ x y);omega
 have rT:(aB (x.tmod y)).size<=13001:=by
  have h1:=mX x y h0;have:=T9_ (show (x.tmod y).natAbs<=y.natAbs by omega);omega
 have HZ:=oA (fV (x.tmod y));obtain ⟨tq,IE⟩:=oc (x.tdiv y);obtain ⟨tr,yL⟩:=oc (x.tmod y);rw [<- IE] at HQ BX xZ vO;rw [<- yL] at HR BX xZ rT HZ;have HF1:=oA BX;have HF2:=oA xZ;have pI:Hid (∀ W,aA w W->oX 144 #[.string (aB tq),.string ⟨#[49]⟩] W (.string (aB (tq-1)))):=fun W hW=>by
  have:=b6_ tq 1 W (by omega) (by decide +kernel) (HT.ext hW);rw [show aB 1=⟨#[49]⟩ by decide +kernel] at this;exact this
 have HADD:Hid (∀ W,aA w W->oX 73 #[.string (aB tr),.string (aB y)] W (.string (aB (tr+y)))):=fun W hW=>b4_ tr y W (by omega) (by omega) (HT.ext hW);have ph:0<y.natAbs:=by omega
 clear hsm ht qg zK hs1 hs2 IE yL BX xZ h0;rcases hbb with hb | ⟨hb,hb2⟩
 case' inl =>
  rw [hb] at H1;obtain ⟨by',hby⟩:=oc (ez y);rw [<- hby] at H2;clear hb hby
 case' inr =>
  rw [hb] at H1;rw [hb2] at H2;clear hb hb2
 all_goals
  go_enter func87,ntmps87
  go_wp2_with fail;refine o_ H1 ?_;intro w1 HE1;clear H1;go_wp2_with fail;refine p_ (H2 _) (aA.trans HE1) ?_;intro w2 HE2;clear H2;go_wp2_with fail;refine q_ (HDX _) ?_;go_wp2_with fail;refine (mL _ _ (by omega)).mono ?_;rintro e w3 ⟨r3,l3,rfl,xE,oz⟩;have HR3:=oA xE;have HE3:=oA (aA.trans HE2 oz);clear xE oz;go_wp2_with fail;refine q_ (BI _) ?_;go_wp2_with fail;refine (mL _ _ (by omega)).mono ?_;rintro e w4 ⟨r4,l4,rfl,vN,hE4⟩;have HR4:=oA vN;have HE4:=oA (aA.trans HE3 hE4);have HA3:=oA ((HR3.out.out.1.at).ext hE4);have yj:l3.length<=15000:=by have:=HR3.out.out.2.2.2;omega
  have AT:l4.length<=15000:=by have:=HR4.out.out.2.2.2;omega
  clear vN hE4;go_wp2_with fail;refine (h1_ l3 l4 _ _ _ HA3 HR4.out.out.1.at HR3.out.out.2.1.1 HR4.out.out.2.1 (by rw [HR4.out.out.2.2.1];exact ph) (by omega) (by omega)).mono ?_;rintro e w5 ⟨r5,r6,l5,l6,rfl,tG,o5⟩;have HR5:=oA tG.out;have HE5:=oA (aA.trans HE4 o5);clear tG o5;go_wp2_with fail;refine q_ (vb _) ?_;go_wp2_with fail;refine q_ (HSY _) ?_;obtain ⟨q1,q2,q3,q4,q5,q6,q7,q8⟩:=HR5.out;have HSG:=oA (mK _ (s1 != s2) l5 r5 w5 q1 q2.1 (by omega) (HT.ext HE5));rw [q3,HR3.out.out.2.2.1,HR4.out.out.2.2.1,HQ.out] at HSG;have Gf:Hid (∀ W,aA w5 W->oX 127 #[.bool (decide (s1<0)),r6] W (.string (aB tr))):=fun W hW=>by
   have:=mK w4.heap.size (decide (s1<0)) l6 r6 W (fN q5 hW) q6.1 (by omega) (HT.ext (HE5.trans hW));rw [q7,HR3.out.out.2.2.1,HR4.out.out.2.2.1,HR.out] at this;exact this
  clear q1 q2 q3 q4 q5 q6 q7 q8;go_wp2_with fail;refine o_ HSG ?_;intro w6 HE6;go_wp2_with fail;refine q_ (vb _) ?_;go_wp2_with fail;refine (Gf _ HE6).mono ?_;rintro e w7 ⟨rfl,qy⟩;have HE7:=oA (aA.trans HE5 (aA.trans HE6 qy));have hz:=HZ.out;clear qy;by_cases hc:tr≠0/\s1≠s2
  ·have hz2:¬ (aB tr).toList=[48]:=fun e=>by rw [e] at hz;exact hc.1 (of_decide_eq_true hz.symm)
   have sA:((aB tr).toList == [48])=false:=(by rw [hz];exact oS hc.1);have hs:¬ s1=s2:=hc.2;have hs2:(s1 != s2)=true:=(by rw [bne_iff_ne];exact hc.2);obtain ⟨g1,g2⟩:=HF1 hc;have HG:=oA (And.intro g1 g2);clear hc g1 g2 HF1 HF2 hz;go_wp2_with fail;refine q_ (vb _) ?_;go_wp2_with fail;refine q_ (HSY _) ?_;go_wp2_with fail;refine p_ (pI _ HE7) (aA.trans HE7) ?_;intro w8 HE8;go_wp2_with fail;refine p_ (HADD _ HE8) (aA.trans HE8) ?_;intro w9 HE9;go_wp2_with fail;go_ret2;exact ⟨by rw [HG.out.1,HG.out.2];rfl,HE9⟩
  ·obtain ⟨g1,g2⟩:=HF2 hc;have HG:=oA (And.intro g1 g2);by_cases h0:tr=0
   ·have hz2:(aB tr).toList=[48]:=(by rw [oT h0] at hz;exact beq_iff_eq.1 hz);clear hc g1 g2 HF1 HF2 hz h0;go_wp2_with fail;go_ret2;exact ⟨by rw [HG.out.1,HG.out.2];rfl,HE7⟩
   ·have hz2:¬ (aB tr).toList=[48]:=fun e=>by rw [e] at hz;exact h0 (of_decide_eq_true hz.symm)
    have hs:(s1 != s2)=false:=by
     have:s1=s2:=by
      false_or_by_contra
      rename_i h;exact hc ⟨h0,h⟩
     rw [this];simp
    clear hc g1 g2 HF1 HF2 hz h0;go_wp2_with fail;refine q_ (vb _) ?_;go_wp2_with fail;refine q_ (HSY _) ?_;go_wp2_with fail;go_ret2;exact ⟨by rw [HG.out.1,HG.out.2];rfl,HE7⟩
theorem Z22 {d:Int} (z:Int) (hd:d≠0):aN (d*z) d=z:=by
 unfold aN;rw [Int.mul_tmod_right,if_neg (by simp)];exact Int.mul_tdiv_cancel_left z hd
theorem k0_ (a x b y d z:Int) (w:World) (ha:(aB a).size<=6000) (hx:(aB x).size<=6000) (hb:(aB b).size<=6000) (hy:(aB y).size<=6000) (hd:(aB d).size<=6000) (h0:d≠0) (hz:a*x-b*y=d*z) (sL:(aB z).size<=6000) (ht:ae w) :
  oX 139 #[.string (aB a),.string (aB x),.string (aB b),.string (aB y),.string (aB d)] w (.string (aB z)):=by
 have HT:=oA ht;have s1:=iR a x;have s2:=iR b y;have s3:=iR d z;have H1:=oA (b5_ a x w (by omega) (by omega) ht);have H2:Hid (∀ W,aA w W->oX 68 #[.string (aB b),.string (aB y)] W (.string (aB (b*y)))):=fun W hW=>b5_ b y W (by omega) (by omega) (HT.ext hW);have H3:Hid (∀ W,aA w W->oX 144 #[.string (aB (a*x)),.string (aB (b*y))] W (.string (aB (d*z)))):=fun W hW=>by
  have:=b6_ (a*x) (b*y) W (by omega) (by omega) (HT.ext hW);rw [hz] at this;exact this
 have H4:Hid (∀ W,aA w W->Calls prog 87 #[.string (aB (d*z)),.string (aB d)] W fun e w'=>∃ r,e=.returned (.tuple #[.string (aB z),.string r])/\aA W w'):=fun W hW=>by
  have:=o3_ (d*z) d W (by omega) (by omega) h0 (HT.ext hW);rw [Z22 z h0] at this;exact this.mono fun _ _ ⟨g1,g2⟩=>⟨_,g1,g2⟩
 obtain ⟨p,hp⟩:=oc (aB (a*x));obtain ⟨q,hq⟩:=oc (aB (b*y));obtain ⟨m,hm⟩:=oc (aB (d*z));rw [<- hp] at H1 H3;rw [<- hq] at H2 H3;rw [<- hm] at H3 H4;clear s1 s2 s3 hp hq hm hz ht ha hx hb hy hd sL h0
 go_enter func139,ntmps139
 go_wp2_with fail;refine o_ H1 ?_;intro w1 HE1;go_wp2_with fail;refine p_ (H2 _ HE1) (HE1.trans) ?_;intro w2 HE2;go_wp2_with fail;refine p_ (H3 _ HE2) (HE2.trans) ?_;intro w3 HE3;go_wp2_with fail;refine (H4 _ HE3).mono ?_;rintro e w4 ⟨r,rfl,hE4⟩;have HE4:=oA (HE3.trans hE4);clear hE4;go_wp2_with fail;go_ret;exact ⟨rfl,HE4⟩
theorem Z5B:(prog.info? 53).map (fun i=>(i.zero,i.size,i.bytes))=some (some (.string ⟨#[]⟩),1,16):=by kernel_rfl
theorem d3_:(prog.info? 29).map (fun i=>(i.zero,i.size,i.bytes))=some (some (.slice none 0 0),1,24):=by kernel_rfl
theorem aU.strV {w:World} {base:Nat} {e:TypeId} {v:Value} {xs:og} (h:aU w base e 1 v numC xs):w.ownsRow base e 1 v xs.length (xs.map fun x=>Value.string (aB x)):=by
 obtain ⟨us,h1,h2,h3,h4⟩:=h;have:us=xs.map fun x=>[Value.string (aB x)]:=by
  apply List.ext_getElem?;intro i;rw [oF];by_cases hi:i<xs.length
  ·have pg:i<us.length:=(by omega);have:=(h4 i us[i] xs[i] (by simp [pg]) (by simp [hi])).now;simp only [numC] at this;simp [hi,pg,this]
  ·rw [oL (by omega),oL (by omega)];rfl
 rw [this,di (fun x=>Value.string (aB x))] at h3;exact h3
theorem cP.of_build {w:World} {base:Nat} {e:TypeId} {v:Value} {xs:og} (h:aU w base e 1 v numC xs) (hne:0<xs.length) :
  ∃ g cap,v=.slice (some ⟨g,0,none⟩) xs.length cap/\cP w g xs/\base<=g/\xs.length<=cap/\cap<=9223372036854775807:=by
 have hs:=h.strV;have hc:=fun g hg=>hs.cells (g:=g) hg;have hs0:=hs;rcases hs.2 with ⟨hv,h0⟩ | ⟨g,cap,cur,hv,hb,hg,h1,h2,h3,h4⟩
 ·omega
 ·subst hv;refine ⟨g,cap,rfl,⟨(Array.getElem?_eq_some_iff.1 hg).1,fun j x hx=>?_,fun j=>hs0.frozenAt j⟩,hb,h1,h2⟩;have:=hc g (by simp [Value.ownBlock]) j (.string (aB x)) (by rw [oF,hx];rfl);rw [show (⟨g,0,none⟩:Addr).add j=⟨g,j,none⟩ by unfold Addr.add;split <;> simp_all] at this;exact this
theorem Z5g (xss:oe) (C:Nat) (v:Value) (w:World) (h:bN w v xss) (hr:∀ r∈xss,r.length=C) (hC:0<C) (hl:xss.length<=1000) (Bf:C<=1000) (hf:∀ r∈xss,Z6B r) (ht:ae w) :
  Calls prog 97 #[v] w fun e w'=>∃ u tags,e=.returned u/\bf mF 29 w' w.heap.size w.heap.size u tags xss/\aA w w':=by
 have HT:=oA ht;obtain ⟨a,c,rfl,h1,h2,-,hc⟩:=bc.open h;have HC:=oA hc;have HRR:=oA hr;have HFX:=oA hf;unfold maxLen at h2;clear h hc hr hf ht
 go_enter func97,ntmps97
 go_wp2_with fail
 go_loopw [4,3] (fun t o wr=>∃ (i:Nat) (tags:List (Nat×Nat)),i<=xss.length/\t=.int .i64 i/\Hid (aA w wr)/\Hid (bf mF 29 wr w.heap.size w.heap.size o tags (xss.take i))) (fun t _ _=>xss.length-(intOf t).toNat)
 case atStart=>exact ⟨0,[],by omega,rfl,aA.refl _,bf.nil _ _ _ _ _⟩
 case round =>
  obtain ⟨i,tags,hi,rfl,HE,HO⟩:=hrel;obtain ⟨wo,rfl⟩:∃ wo:World,wo=wr:=⟨_,rfl⟩;by_cases hlt:i<xss.length
  ·obtain ⟨b,off,rfl,hb,hcell⟩:=HC (by intro e;simp [e] at hlt);obtain ⟨r,hr⟩:∃ x,xss[i]?=some x:=⟨xss[i],oB hlt⟩;obtain ⟨vr,sn,sJ⟩:=hcell i r hr;obtain ⟨ar,cr,rfl,r1,r2,-,-,qX⟩:=sn.open;have yM:r.length=C:=HRR r (oE hr);rw [yM] at sJ r1;obtain ⟨br,or_,rfl,-,pK⟩:=qX (by intro e;rw [e] at yM;simp at yM;omega);have HCR:=oA sJ;have HC1:=oA pK;have HRN:=oA yM;have MS:Hid (Z6B r):=HFX r (oE hr);have HTK:Hid (xss.take (i+1)=xss.take i++[r]):=(by unfold Hid;rw [oH,hr];rfl);have Kw:(i:Int)<(xss.length:Int):=(by omega);unfold maxLen at r2;clear hcell hr sn sJ qX pK yM;go_wp2_with fail
   go_loopw [6,5] (fun t o wr=>∃ j:Nat,j<=C/\t=.int .i64 j/\Hid (aA wo wr)/\Hid (aU wr wo.heap.size 53 1 o numC (r.take j))) (fun t _ _=>C-(intOf t).toNat)
   case atStart=>exact ⟨0,by omega,rfl,by first | exact aA.refl _ | exact aA.drew _,aU.nil _ _ _ _ _⟩
   case round =>
    obtain ⟨j,hj,rfl,qe,HBI⟩:=hrel;obtain ⟨wi,rfl⟩:∃ wi:World,wi=wr:=⟨_,rfl⟩;have HWI:=oA (HE.trans qe);have g1:=HWI.cell HCR;by_cases hjl:j<C
    ·obtain ⟨p,hp⟩:∃ p,r[j]?=some p:=⟨_,oB (by rw [HRN.out];exact hjl)⟩;have g2:=HWI.cell (HC1 j p hp);have hbd:=MS p (oE hp);have HOF:Hid (oX 69 #[.int .i64 p] wi (.string (aB p))):=nn p wi (by omega) (by omega) (HT.ext HWI);have HRT:Hid (r.take (j+1)=r.take j++[p]):=(by unfold Hid;rw [oH,hp];rfl);have HLL:Hid ((r.take j).length<1000000):=Nat.lt_of_le_of_lt (by rw [oG];exact Nat.min_le_left _ _) (show j<1000000 by omega);have Cf:(j:Int)<(C:Int):=(by omega);clear hp hbd;go_wp2_with fail;refine HOF.mono ?_;rintro e w5 ⟨rfl,o5⟩;have HX5:=oA (qe.trans o5);have HB5:=oA (HBI.ext o5);have qu:wo.heap.size<=w5.heap.size:=HX5.size;clear o5;go_wp2_with (at_builtin;go_must (refine eM _ rfl _ _ 29 rfl wo.heap.size 53 (.string ⟨#[]⟩) 1 16 underlying29 Z5B rfl (by decide) u5 numC (r.take j) p #[.string (aB p)] 53 rfl HB5 rfl rfl ?_ (fun _ _=>rfl) HLL (by decide) qu ?_))
     all_goals first | (simp [Value.oneCell'];done) | skip
     intro v' w6 rC sI hb6 Dt _;rw [<- HRT.out] at rC;have HB6:=oA rC;have HX6:Hid (aA wo w6):=Below.trans HX5 hb6;clear rC sI hb6;go_wp2_with fail;go_roundw
     case rel=>exact ⟨j+1,by omega,by go_num,HX6,HB6⟩
     case measure=>simp [intOf];omega
    ·obtain rfl:j=C:=(by omega);have vA:r.take j=r:=(by rw [<- HRN.out,List.take_length]);rw [vA] at HBI;obtain ⟨g,cap,hv,yu,hbg,pk,pN⟩:=cP.of_build HBI (by rw [HRN.out];exact hC);subst hv;have HRW:=oA yu;rw [HRN.out] at pk |-;have HO4:=oA (HO.ext qe);have HV:Hid (u3.ownBlock≠some g):=fun e=>by have:=(HO.own.lt _ e).2;omega
     have HN:Hid (g∉tags.map (·.1)):=fun e=>by have:=(HO.fresh e).2;omega
     have HLL:Hid ((xss.take i).length<1000000):=Nat.lt_of_le_of_lt (by rw [oG];exact Nat.min_le_left _ _) (show i<1000000 by omega);have qu:w.heap.size<=wi.heap.size:=HWI.size;have qP:w.heap.size<=g:=(by have:=HE.size;omega);have Cf:¬ (j:Int)<(j:Int):=(by omega);clear yu vA;go_wp2_with (at_builtin;go_must (refine Z3_ (K:=mF) (e:=29) underlying122 d3_ wi rfl _ _ rfl w.heap.size w.heap.size u3 tags (xss.take i) (g,cap) r _ _ rfl HO4 rfl ?d1 ?d2 ?d3 HRW ?d4 HV HN HLL ?d5 ?_))
     case d1=>rw [HRN.out];rfl
     case d2=>rw [HRN.out];exact pk
     try (case d3=>exact pN)
     try (case d4=>exact qP)
     try (case d5=>exact qu)
     intro v' w6 Bd hb6 _;rw [<- HTK.out] at Bd;have HO6:=oA Bd;have HX6:Hid (aA w w6):=Below.trans HWI hb6;clear Bd hb6;go_wp2_with fail;go_roundw
     case rel=>exact ⟨i+1,_,by omega,by go_num,HX6,HO6⟩
     case measure=>simp [intOf];omega
  ·obtain rfl:i=xss.length:=(by omega);rw [List.take_length] at HO;have Kw:¬ (xss.length:Int)<(xss.length:Int):=(by omega);go_wp2_with fail;go_ret;exact ⟨_,rfl,⟨_,HO⟩,HE⟩
theorem B7_ {C c:Nat} {R:Nat} {A:Nat->Nat->Rat} {s:fh} {ρ:Nat->Nat} {sg x:Rat} (h:gJ R A c s ρ sg x) (hR:bY C s.m) :
  (bC c s=⟨s.m,s.lead,0⟩/\(∀ i,s.lead.length<=i->aF s.m i c=0)/\gJ R A (c+1) (bC c s) ρ sg x) \/
  ∃ a,s.lead.length<=a/\a<R/\aF s.m a c≠0/\(∀ j,s.lead.length<=j->j<a->aF s.m j c=0) /\
   (bC c s).lead=s.lead++[c]/\(bC c s).det=(if a=s.lead.length then s.det else -s.det)*aF s.m a c /\
   (∀ i j,aF (bC c s).m i j=if i=s.lead.length then aF s.m a j / aF s.m a c else aF s.m (aT s.lead.length a i) j-aF s.m (aT s.lead.length a i) c*(aF s.m a j / aF s.m a c)) /\
   ∃ ρ' sg' x',gJ R A (c+1) (bC c s) ρ' sg' x'/\aL (s.lead.length+1) (fun i b=>A (ρ' i) (aw (bC c s).lead b))=aF s.m a c*aL s.lead.length fun a b=>A (ρ a) (aw s.lead b):=by
 rcases v8_ (c:=c) hR (by rw [h.len];exact h.rle) with ⟨e,hz⟩ | ⟨a,sB,ha2,hne,rl,pW,hlen,tK,qW⟩
 ·refine .inl ⟨e,hz,?_⟩;rw [e];refine ⟨h.len,h.rle,Nat.le_succ_of_le h.rlc,fun l hl=>Nat.lt_succ_of_lt (h.klt l hl),fun hc=>?_,h.unit,fun i j hi hj=>?_,h.rho,h.sur,h.span,h.dne,h.form,?_,h.sgn,h.sgf,h.xD⟩
  ·have:=h.rlc;have qp:s.lead.length=c+1:=hc;omega
  ·by_cases e:j=c;·rw [e];exact hz i hi
   ·exact h.zero i j hi (by omega)
  ·show (0:Rat)=if s.lead.length=c+1 then x else 0
   rw [if_neg (by have:=h.rlc;omega)]
 ·rw [h.len] at ha2;refine .inr ⟨a,sB,ha2,hne,rl,pW,tK,qW,?_⟩;have hL:(bC c s).lead.length=s.lead.length+1:=by rw [pW];simp
  have qC:∀ l,l<s.lead.length->aw (bC c s).lead l=aw s.lead l:=fun l hl=>by rw [pW];exact d6_ hl
  have pc:aw (bC c s).lead s.lead.length=c:=by rw [pW];exact d5_ _ _
  have hbig:=h.big (i:=a) (j:=c) sB ha2;generalize hr:s.lead.length=r at *
  have yL:aT r a r=a:=by unfold aT;rw [if_pos rfl]
  have tb:∀ i,i<r->aT r a i=i:=fun i hi=>by unfold aT;rw [if_neg (by omega),if_neg (by omega)]
  have B4:∀ i,r<=i->r<=aT r a i:=fun i hi=>by unfold aT;repeat' split <;> try omega
  have yc:∀ i,i<R->aT r a i<R:=fun i hi=>by unfold aT;repeat' split <;> try omega
  have yK:∀ i,aT r a (aT r a i)=i:=fun i=>by unfold aT;repeat' split <;> try omega
  have hdiv:aF s.m a c / aF s.m a c=1:=by rw [Rat.div_def];exact Rat.mul_inv_cancel _ hne
  have rQ:∀ l,l<r->aF s.m a (aw s.lead l)=0:=fun l hl=>by rw [h.unit a l (by omega),if_neg (by omega)]
  have tD:∀ i l,l<r+1->aF (bC c s).m i (aw (bC c s).lead l)=if i=l then 1 else 0:=by
   intro i l hl;by_cases e:l=r
   ·subst e;rw [pc,qW];by_cases e2:i=l;·rw [if_pos e2,if_pos e2,hdiv]
    ·rw [if_neg e2,if_neg e2,hdiv];grind
   ·rw [qC l (by omega),qW,rQ l (by omega)];by_cases e2:i=r;·rw [if_pos e2,if_neg (by omega),Rat.div_def,Rat.zero_mul]
    ·rw [if_neg e2,h.unit _ l (by omega),Rat.div_def,Rat.zero_mul];by_cases e3:i=l;·rw [if_pos e3,if_pos (by rw [e3];exact tb l (by omega))];grind
     ·rw [if_neg e3,if_neg (by intro e4;have h5:=yK i;rw [e4,tb l (by omega)] at h5;exact e3 h5.symm)];grind
  have hD:aL (r+1) (fun i b=>A (ρ (aT r a i)) (aw (bC c s).lead b))=aF s.m a c*aL r fun a b=>A (ρ a) (aw s.lead b):=by
   rw [<- hbig];refine cA fun i b hi hb=>?_;have e1:ρ (aT r a i)=if i<r then ρ i else ρ a:=by
    by_cases e:i<r;·rw [if_pos e,tb i e]
    ·rw [if_neg e,show i=r by omega,yL]
   have e2:aw (bC c s).lead b=if b<r then aw s.lead b else c:=by
    by_cases e:b<r;·rw [if_pos e,qC b e]
    ·rw [if_neg e,show b=r by omega,pc]
   rw [e1,e2]
  refine ⟨fun i=>ρ (aT r a i),(if a=r then 1 else -1)*sg,x*((if a=r then 1 else -1)*aF s.m a c),⟨by rw [hlen,h.len],by rw [hL];omega,by rw [hL];have:=h.rlc;omega,?_,?_,?_,?_,?_,?_,?_,?_,?_,?_,?_,?_,?_⟩,hD⟩
  ·intro l hl;rw [hL] at hl;by_cases e:l=r;·rw [e,pc];omega
   ·rw [qC l (by omega)];have:=h.klt l (by omega);omega
  ·intro hc l hl;rw [hL] at hc;by_cases e:l=r;·rw [e,pc];omega
   ·rw [qC l (by omega)];exact h.full (by omega) l (by omega)
  ·rw [hL];exact tD
  ·intro i j hi hj;rw [hL] at hi;by_cases e:j=c
   ·have:=tD i r (by omega);rw [pc,if_neg (by omega)] at this;rw [e];exact this
   ·rw [qW,if_neg (by omega),h.zero (aT r a i) j (by have:=B4 i (by omega);omega) (by omega),h.zero a j (by omega) (by omega),Rat.div_def,Rat.zero_mul];grind
  ·intro i hi;exact h.rho _ (yc i hi)
  ·intro i hi;obtain ⟨i',h1,h2⟩:=h.sur i hi;exact ⟨aT r a i',yc i' h1,by rw [yK];exact h2⟩
  ·intro i j hi;have h1:=h.span (aT r a i) j (yc i hi);have h2:=h.span (aT r a i) c (yc i hi);rw [hL];show A (ρ (aT r a i)) j=_+(aI r (fun l=>aF (bC c s).m l j*A (ρ (aT r a i)) (aw (bC c s).lead l))+aF (bC c s).m r j*A (ρ (aT r a i)) (aw (bC c s).lead r));rw [pc];rw [hr] at h1 h2;have e1:aI r (fun l=>aF (bC c s).m l j*A (ρ (aT r a i)) (aw (bC c s).lead l))=aI r (fun l=>aF s.m l j*A (ρ (aT r a i)) (aw s.lead l))+- (aF s.m a j / aF s.m a c)*aI r (fun l=>aF s.m l c*A (ρ (aT r a i)) (aw s.lead l)):=by
    rw [<- ia,<- mV];refine cG fun l hl=>?_;rw [qC l hl,qW,if_neg (by omega),tb l hl];grind
   rw [e1,qW r j,if_pos rfl,qW i j];have hlt:(aT r a i<r)=(i<r):=by
    apply propext;constructor
    ·intro h;by_cases e:i<r;·exact e
     ·have:=B4 i (by omega);omega
    ·intro h;rw [tb i h];exact h
   simp only [hlt] at h1 h2;by_cases e:i<r
   ·rw [if_pos e] at h1 h2;rw [if_pos (by omega),h1,h2];grind
   ·rw [if_neg e] at h1 h2;by_cases e2:i=r
    ·rw [e2,yL] at h1 h2;rw [if_pos (by omega),e2,yL,h1,h2];have:aF s.m a j / aF s.m a c*aF s.m a c=aF s.m a j:=(by rw [Rat.div_def,Rat.mul_assoc,Rat.inv_mul_cancel _ hne,Rat.mul_one]);grind
    ·rw [if_neg (by omega),if_neg e2,h1,h2];grind
  ·rw [hL,hD];intro h0;rcases Rat.mul_eq_zero.1 h0 with h0 | h0;·exact hne h0
   ·exact h.dne (by rw [hr];exact h0)
  ·intro f hf;rw [h.form f hf,hf.pivot sB ha2 hne qW];grind
  ·rw [tK,h.det,hL,hr];by_cases e:r=c;·rw [if_pos e,if_pos (show r+1=c+1 by omega)];split <;> grind
   ·rw [if_neg e,if_neg (show ¬ r+1=c+1 by omega)];split <;> grind
  ·rcases h.sgn with e | e <;> rw [e] <;> split <;> first | (left;grind) | (right;grind)
  ·intro f hf;by_cases e:a=r
   ·rw [if_pos e,e];have:(fun i b=>A (ρ (aT r r i)) b)=fun i b=>A (ρ i) b:=by funext i b;rw [lK]
    rw [this,h.sgf f hf];grind
   ·rw [if_neg e,hf.swap (fun i b=>A (ρ i) b) r a (by omega) ha2,h.sgf f hf];grind
  ·rw [hL,hD,h.xD,hr];grind
def kH (m:oe) (i:Nat):List Int:=m.getD i []
def fi (p f d:Int) (r pr:og):List Int:=List.zipWith (fun x y=>(p*x-f*y) / d) r pr
def dY (m:oe) (c k:Nat) (p d:Int):Nat->oe
 | 0=>m
 | j+1=>if j=k then dY m c k p d j else (dY m c k p d j).set j (fi p (aV m j c) d (kH m j) (kH m k))
def f_ (m:oe) (c:Nat):Nat->Nat->Nat
 | 0,a=>a
 | f+1,a=>if aV m a c=0 then f_ m c f (a+1) else a
structure jJ where
 m:oe
 lead:List Nat
 last:Int
 odd:Bool
def ed (c:Nat) (s:jJ):jJ :=
 let k:=s.lead.length
 let a:=f_ s.m c (s.m.length-k) k
 if a=s.m.length then s
 else
  let m1:=if a=k then s.m else bE s.m k a
  ⟨dY m1 c k (aV m1 k c) s.last m1.length,s.lead++[c],aV m1 k c,if a=k then s.odd else !s.odd⟩
def bK (m:oe):Nat->jJ
 | 0=>⟨m,[],1,false⟩
 | c+1=>ed c (bK m c)
def cI (C:Nat) (m:oe):Prop:=∀ r∈m,r.length=C
theorem cI.row {C:Nat} {m:oe} (h:cI C m) {i:Nat} (hi:i<m.length):(kH m i).length=C:=by
 unfold kH;rw [oD,oB hi];exact h _ (List.getElem_mem hi)
theorem cI.set {C:Nat} {m:oe} (h:cI C m) (i:Nat) {r:og} (hr:r.length=C):cI C (m.set i r):=fun q hq=>by
 rcases List.mem_or_eq_of_mem_set hq with hq | rfl;·exact h q hq
 ·exact hr
theorem cI.swp {C:Nat} {m:oe} (h:cI C m) (i j:Nat):cI C (bE m i j):=by
 unfold Proofs.YtjlkkofmojgipaaGreatDoor.bE
 split
 ·rename_i a b ha hb;exact (h.set i (h _ (oE hb))).set j (h _ (oE ha))
 ·exact h
theorem t8_ {p f d:Int} {r pr:og} (h:pr.length=r.length):(fi p f d r pr).length=r.length:=by
 unfold fi;rw [List.length_zipWith,h,Nat.min_self]
theorem Z3O {p f d:Int} {r pr:og} (h:pr.length=r.length) (x:Nat):(fi p f d r pr).getD x 0=(p*r.getD x 0-f*pr.getD x 0) / d:=by
 unfold fi;rw [oD,oD,oD,List.getElem?_zipWith];by_cases hx:x<r.length;·rw [oB hx,oB (by omega:x<pr.length)];rfl
 ·rw [oL (by omega:r.length<=x),oL (by omega:pr.length<=x)];show (0:Int)=(p*0-f*0) / d;simp
theorem Z5s {m:oe} {k:Nat} (r:og) (hk:k<m.length) (i x:Nat):aV (m.set k r) i x=if i=k then r.getD x 0 else aV m i x:=by
 unfold aV;rw [oD (l:=m.set k r),oW];by_cases h:i=k;·subst h;rw [if_pos rfl,if_pos rfl,if_pos hk];rfl
 ·rw [if_neg (by omega),if_neg h,oD (l:=m)]
theorem y0_ {m:oe} {i x:Nat} (h:m.length<=i):aV m i x=0:=by
 unfold aV;rw [oD (l:=m),oL h];simp
theorem nL (m:oe) (c k:Nat) (p d:Int):∀ j,(dY m c k p d j).length=m.length
 | 0=>rfl
 | j+1=>by
  unfold dY;split;·exact nL m c k p d j
  ·rw [List.length_set];exact nL m c k p d j
theorem T3_ (m:oe) (c k:Nat) (p d:Int):∀ (j i:Nat),j<=i\/i=k->(dY m c k p d j)[i]?=m[i]?
 | 0,i,_=>rfl
 | j+1,i,h=>by
  unfold dY;by_cases e:j=k;·rw [if_pos e];exact T3_ m c k p d j i (by omega)
  ·rw [if_neg e,oW,if_neg (by omega)];exact T3_ m c k p d j i (by omega)
theorem cI.el {C:Nat} {m:oe} (h:cI C m) (c k:Nat) (p d:Int) (hk:k<m.length):∀ j,j<=m.length->cI C (dY m c k p d j)
 | 0,_=>h
 | j+1,hj=>by
  unfold dY
  split
  ·exact cI.el h c k p d hk j (by omega)
  ·exact (cI.el h c k p d hk j (by omega)).set j (by rw [t8_ (by rw [h.row hk,h.row (show j<m.length by omega)]),h.row (by omega)])
theorem z9_ {C:Nat} {m:oe} (h:cI C m) (c k:Nat) (p d:Int) (hk:k<m.length) (x:Nat) :
  ∀ j,j<=m.length->∀ i,aV (dY m c k p d j) i x=if i<j/\i≠k then (p*aV m i x-aV m i c*aV m k x) / d else aV m i x
 | 0,_,i=>by rw [if_neg (by omega)];rfl
 | j+1,hj,i=>by
  have ih:=z9_ h c k p d hk x j (by omega) i;unfold dY;by_cases e:j=k
  ·rw [if_pos e,ih];by_cases h1:i<j/\i≠k;·rw [if_pos h1,if_pos ⟨by omega,h1.2⟩]
   ·rw [if_neg h1,if_neg (by rintro ⟨h2,h3⟩;exact h1 ⟨by omega,h3⟩)]
  ·rw [if_neg e,Z5s _ (by rw [nL];omega),ih];by_cases e2:i=j
   ·subst e2;rw [if_pos rfl,if_pos ⟨by omega,e⟩,Z3O (by rw [h.row hk,h.row (by omega)])];rfl
   ·rw [if_neg e2];by_cases h1:i<j/\i≠k;·rw [if_pos h1,if_pos ⟨by omega,h1.2⟩]
    ·rw [if_neg h1,if_neg (by rintro ⟨h2,h3⟩;exact h1 ⟨by omega,h3⟩)]
theorem W9_ (m:oe) (c:Nat):∀ (f a:Nat),a<=f_ m c f a/\f_ m c f a<=a+f/\(∀ j,a<=j->j<f_ m c f a->aV m j c=0)/\(f_ m c f a<a+f->aV m (f_ m c f a) c≠0)
 | 0,a=>⟨oK _,oK _,fun j h1 h2=>by have:j<a:=h2;omega,fun h=>by have:a<a+0:=h;omega⟩
 | f+1,a=>by
  unfold f_;by_cases h:aV m a c=0
  ·rw [if_pos h];obtain ⟨h1,h2,h3,h4⟩:=W9_ m c f (a+1);refine ⟨by omega,by omega,fun j Kt xU=>?_,fun hl=>h4 (by omega)⟩;by_cases e:j=a;·rw [e];exact h
   ·exact h3 j (by omega) xU
  ·rw [if_neg h];exact ⟨oK _,by omega,fun j h1 h2=>by omega,fun _=>h⟩
theorem J3_ {m:oe} {c k a:Nat} (h1:k<=a) (h2:a<m.length) (hne:aV m a c≠0) (h0:∀ j,k<=j->j<a->aV m j c=0):f_ m c (m.length-k) k=a:=by
 obtain ⟨g1,g2,g3,g4⟩:=W9_ m c (m.length-k) k;generalize f_ m c (m.length-k) k=b at *
 rcases Nat.lt_trichotomy b a with h | h | h;·exact absurd (h0 b g1 h) (g4 (by omega))
 ·exact h
 ·exact absurd (g3 a h1 h) hne
theorem D3_ {m:oe} {c k:Nat} (hk:k<=m.length) (h0:∀ j,k<=j->aV m j c=0):f_ m c (m.length-k) k=m.length:=by
 obtain ⟨g1,g2,g3,g4⟩:=W9_ m c (m.length-k) k;generalize f_ m c (m.length-k) k=b at *
 by_cases h:b<m.length;·exact absurd (h0 b g1) (g4 (by omega))
 ·omega
theorem k7_ {m:oe} {a b:Nat} (ha:a<m.length) (hb:b<m.length) (i j:Nat):aV (bE m a b) i j=aV m (aT a b i) j:=by
 unfold aV;rw [oD (l:=bE m a b),oD (l:=m),fO (oB ha) (oB hb)];unfold aT;by_cases h1:i=a
 ·subst h1;by_cases h2:i=b;·subst h2;rw [if_pos rfl,if_pos rfl,oB ha]
  ·rw [if_neg h2,if_pos rfl,if_pos rfl,oB hb]
 ·by_cases h2:i=b;·subst h2;rw [if_pos rfl,if_neg h1,if_pos rfl,oB ha]
  ·rw [if_neg h2,if_neg h1,if_neg h1,if_neg h2]
structure kN (C c:Nat) (m:oe) (E:jJ) (S:fh):Prop where
 lead:E.lead=S.lead
 len:E.m.length=m.length
 rect:cI C E.m
 el:∀ i j,((aV E.m i j:Int):Rat)=(E.last:Rat)*aF S.m i j
 ne:E.last≠0
 det:S.lead.length=c->S.det=(if E.odd then -1 else 1)*(E.last:Rat)
 inv:∃ ρ sg x,gJ m.length (aF (bF m)) c S ρ sg x/\(E.last:Rat)=aL S.lead.length fun a b=>aF (bF m) (ρ a) (aw S.lead b)
theorem h4_ {K R c:Nat} {A:Nat->Nat->Rat} {s:fh} {ρ:Nat->Nat} {sg x:Rat} (h:gJ R A c s ρ sg x) (hA:∀ i j,bT K (A i j)) (hK:1<=K) (i j:Nat) :
  bT (dX K (R+1)) (aL s.lead.length (fun a b=>A (ρ a) (aw s.lead b))*aF s.m i j):=by
 have hl:=h.rle;by_cases hi:i<s.lead.length
 ·rw [Rat.mul_comm,<- h.small hi];exact (L4_ fun a b=>hA _ _).mono (nG hK (by omega))
 ·by_cases hR:i<R
  ·rw [Rat.mul_comm,<- h.big (by omega) hR];exact (L4_ fun a b=>hA _ _).mono (nG hK (by omega))
  ·rw [nM (by rw [h.len];omega),Rat.mul_zero];exact bT.zero _
theorem Z1z {C:Nat} {m:oe} (hr:cI C m) (hR:bY C (bF m)):kN C 0 m (bK m 0) (ai (bF m) 0) where
 lead:=rfl
 len:=rfl
 rect:=hr
 el:=fun i j=>by
  show ((aV m i j:Int):Rat)=((1:Int):Rat)*aF (bF m) i j;rw [nf];grind
 ne:=by show (1:Int)≠0;decide
 det:=fun _=>by show (1:Rat)=(if false=true then -1 else 1)*((1:Int):Rat);rw [if_neg (by decide)];grind
 inv:=⟨fun i=>i,1,1,by have:=o7_ (bF m) hR;rw [show (bF m).length=m.length by simp [bF]] at this;exact this,by show ((1:Int):Rat)=1;grind⟩
theorem Z1y {C c K:Nat} {m:oe} {E:jJ} {S:fh} (hK:1<=K) (hm:∀ i j,bT K (aF (bF m) i j)) (hRS:bY C S.m) (h:kN C c m E S) :
  kN C (c+1) m (ed c E) (bC c S):=by
 obtain ⟨ρ,sg,x,hI,hD⟩:=h.inv;have hlen:=h.len;have hrle:=hI.rle;rcases B7_ hI hRS with ⟨e,hz,zj⟩ | ⟨a,sB,ha2,hne,rl,pW,tK,qW,ρ',sg',x',zj,DD⟩
 ·have hst:ed c E=E:=by
   unfold ed;simp only
   rw [h.lead,D3_ (by omega) (fun j hj=>by
    have:=h.el j c;rw [hz j hj,Rat.mul_zero] at this
    exact_mod_cast this),if_pos rfl]
  rw [hst];rw [e] at zj |-;exact ⟨h.lead,h.len,h.rect,h.el,h.ne,fun hc=>by have:=hI.rlc;have qp:S.lead.length=c+1:=hc;omega,ρ,sg,x,zj,hD⟩
 ·obtain ⟨k,hk⟩:=oc S.lead.length;rw [<- hk] at sB rl tK qW DD hrle;have pT:a<E.m.length:=by omega
  have hkl:k<E.m.length:=by omega
  have vQ:aV E.m a c≠0:=by
   intro h0;have:=h.el a c;rw [h0] at this;have h2:(E.last:Rat)≠0:=(by exact_mod_cast h.ne);rcases Rat.mul_eq_zero.1 (show (E.last:Rat)*aF S.m a c=0 by rw [<- this];rfl) with h3 | h3;·exact h2 h3
   ·exact hne h3
  have Co:f_ E.m c (E.m.length-k) k=a:=J3_ sB pT vQ fun j h1 h2=>by
   have:=h.el j c;rw [rl j h1 h2,Rat.mul_zero] at this
   exact_mod_cast this
  obtain ⟨m1,hm1⟩:∃ m1,m1=if a=k then E.m else bE E.m k a:=⟨_,rfl⟩
  have hst:ed c E=⟨dY m1 c k (aV m1 k c) E.last m1.length,S.lead++[c],aV m1 k c,if a=k then E.odd else !E.odd⟩:=by
   unfold ed;simp only;rw [h.lead,<- hk,Co,if_neg (by omega),<- hm1]
  have e1:∀ i j,aV m1 i j=aV E.m (aT k a i) j:=fun i j=>by
   rw [hm1];by_cases e:a=k;·rw [if_pos e,e,lK]
   ·rw [if_neg e];exact k7_ hkl pT i j
  have l1:m1.length=E.m.length:=by
   rw [hm1];split;·rfl
   ·exact h_ _ _ _
  have r1:cI C m1:=by
   rw [hm1];split;·exact h.rect
   ·exact h.rect.swp _ _
  clear hm1;have vA:aT k a k=a:=by unfold aT;rw [if_pos rfl]
  obtain ⟨p,hp⟩:=oc (aV m1 k c);have IK:p=aV E.m a c:=by rw [hp,e1,vA]
  have AL:(p:Rat)=(E.last:Rat)*aF S.m a c:=by rw [IK];exact h.el a c
  have Dz:(p:Rat)=aL (bC c S).lead.length fun i b=>aF (bF m) (ρ' i) (aw (bC c S).lead b):=by
   rw [show (bC c S).lead.length=k+1 by rw [pW,oV,<- hk];rfl,DD,AL,hD,<- hk];grind
  rw [<- hp] at hst;rw [hst];refine ⟨pW.symm,by show (dY m1 c k p E.last m1.length).length=_;rw [nL,l1];exact hlen,r1.el c k p E.last (by omega) _ (oK _),fun i j=>?_,by show p≠0;rw [IK];exact vQ,fun hc=>?_,ρ',sg',x',zj,Dz⟩
  ·show ((aV (dY m1 c k p E.last m1.length) i j:Int):Rat)=(p:Rat)*aF (bC c S).m i j;rw [z9_ r1 c k p E.last (by omega) j _ (oK _)];by_cases hik:i=k
   ·rw [if_neg (by rintro ⟨-,h⟩;exact h hik),qW,if_pos hik,hik,e1,vA,h.el,AL];have:aF S.m a c*(aF S.m a j / aF S.m a c)=aF S.m a j:=(by rw [Rat.div_def,Rat.mul_comm (aF S.m a j),<- Rat.mul_assoc,Rat.mul_inv_cancel _ hne,Rat.one_mul]);rw [Rat.mul_assoc,this]
   ·by_cases hil:i<m1.length
    ·rw [if_pos ⟨hil,hik⟩];obtain ⟨z,hz,-⟩:=h4_ zj hm hK i j;rw [<- Dz] at hz;have hN:p*aV m1 i j-aV m1 i c*aV m1 k j=E.last*z:=by
      have hq:((p*aV m1 i j-aV m1 i c*aV m1 k j:Int):Rat)=((E.last*z:Int):Rat):=by
       rw [Rat.intCast_sub,Rat.intCast_mul,Rat.intCast_mul,Rat.intCast_mul,<- hz,e1,e1,e1,vA,h.el,h.el,h.el,qW,if_neg hik,AL];have:aF S.m a c*(aF S.m a j / aF S.m a c)=aF S.m a j:=(by rw [Rat.div_def,Rat.mul_comm (aF S.m a j),<- Rat.mul_assoc,Rat.mul_inv_cancel _ hne,Rat.one_mul]);grind
      exact_mod_cast hq
     rw [hN,Int.mul_ediv_cancel_left z h.ne,hz]
    ·rw [if_neg (by rintro ⟨h,-⟩;exact hil h),y0_ (by omega),nM (by rw [zj.len];omega)];show (0:Rat)=_;rw [Rat.mul_zero]
  ·have wP:S.lead.length=c:=by
    rw [pW,oV] at hc;have:S.lead.length+1=c+1:=hc;omega
   have hd:=h.det wP;rw [tK];show _=(if (if a=k then E.odd else !E.odd)=true then (-1:Rat) else 1)*(p:Rat);rw [hd,AL];by_cases e:a=k;·rw [if_pos e,if_pos e];grind
   ·rw [if_neg e,if_neg e];cases E.odd <;> simp <;> grind
theorem P0_ {C:Nat} {m:oe} (hr:cI C m):bY C (bF m):=by
 intro r vn;unfold bF at vn;obtain ⟨q,hq,rfl⟩:=List.mem_map.1 vn;unfold cw;rw [List.length_map];exact hr q hq
theorem lZ {C K:Nat} {m:oe} (hK:1<=K) (hm:∀ i j,bT K (aF (bF m) i j)) (hr:cI C m):∀ c,kN C c m (bK m c) (ai (bF m) c)
 | 0=>Z1z hr (P0_ hr)
 | c+1=>Z1y hK hm (lE (P0_ hr) c).1 (lZ hK hm hr c)
theorem kN.small {C c K:Nat} {m:oe} {E:jJ} {S:fh} (h:kN C c m E S) (hK:1<=K) (hm:∀ i j,bT K (aF (bF m) i j)) :
  (∀ i j,(aV E.m i j).natAbs<=dX K (m.length+1))/\E.last.natAbs<=dX K (m.length+1):=by
 obtain ⟨ρ,sg,x,hI,hD⟩:=h.inv;have key:∀ (z:Int) (q:Rat),bT (dX K (m.length+1)) q->(z:Rat)=q->z.natAbs<=dX K (m.length+1):=by
  rintro z q ⟨y,hy,hb⟩ hz;rw [hy] at hz;have:z=y:=by exact_mod_cast hz
  rw [this];exact hb
 refine ⟨fun i j=>key _ _ (h4_ hI hm hK i j) (by rw [h.el,hD]),key _ _ ((L4_ fun a b=>hm _ _).mono (nG hK (by have:=hI.rle;omega))) hD⟩
theorem g6_ {C c:Nat} {s:jJ} (h:cI C s.m) (hk:s.lead.length<=s.m.length):cI C (ed c s).m/\(ed c s).m.length=s.m.length/\(ed c s).lead.length<=s.m.length:=by
 unfold ed;simp only;obtain ⟨g1,g2,g3,g4⟩:=W9_ s.m c (s.m.length-s.lead.length) s.lead.length;generalize f_ s.m c (s.m.length-s.lead.length) s.lead.length=a at *
 by_cases ha:a=s.m.length;·rw [if_pos ha];exact ⟨h,rfl,hk⟩
 ·rw [if_neg ha];have r1:cI C (if a=s.lead.length then s.m else bE s.m s.lead.length a)/\(if a=s.lead.length then s.m else bE s.m s.lead.length a).length=s.m.length:=by
   split
   ·exact ⟨h,rfl⟩
   ·exact ⟨h.swp _ _,h_ _ _ _⟩
  obtain ⟨r1,r2⟩:=r1;generalize (if a=s.lead.length then s.m else bE s.m s.lead.length a)=m1 at *
  exact ⟨r1.el _ _ _ _ (by omega) _ (oK _),by rw [nL];exact r2,by rw [oV];simp;omega⟩
theorem U0_ {C:Nat} {m:oe} (h:cI C m):∀ c,cI C (bK m c).m/\(bK m c).m.length=m.length/\(bK m c).lead.length<=m.length
 | 0=>⟨h,rfl,Nat.zero_le _⟩
 | c+1=>by
  obtain ⟨h1,h2,h3⟩:=U0_ h c;obtain ⟨k1,k2,k3⟩:=g6_ (c:=c) h1 (by omega);exact ⟨k1,by show (ed c (bK m c)).m.length=_;omega,by show (ed c (bK m c)).lead.length<=_;omega⟩
theorem Z1g {c:Nat} {s:jJ} (h:s.lead.length=s.m.length):ed c s=s:=by
 unfold ed;simp only;rw [h,Nat.sub_self];exact if_pos rfl
theorem E1_ {C:Nat} {m:oe} (hr:cI C m) {c:Nat} (h:(bK m c).lead.length=m.length):∀ d,bK m (c+d)=bK m c
 | 0=>rfl
 | d+1=>by
  show ed (c+d) (bK m (c+d))=_;rw [E1_ hr h d];exact Z1g (by rw [h,(U0_ hr c).2.1])
structure dK (w0 wr:World) (g0 D:Nat) (om:List (Nat×Nat)) (m:oe) (v:Value) (ld:List Nat) (tags:List (Nat×Nat)):Prop where
 mat:dJ wr g0 tags m
 lead:cL D wr v ld
 same:∀ b,bV g0 tags b↔bV g0 om b
 grown:aG (bV g0 om) w0 wr
 size:D<=wr.heap.size
theorem dK.ext {w0 wr w':World} {g0 D:Nat} {om:List (Nat×Nat)} {m:oe} {v:Value} {ld:List Nat} {tags:List (Nat×Nat)} (h:dK w0 wr g0 D om m v ld tags) (he:aA wr w'):dK w0 w' g0 D om m v ld tags :=
 ⟨h.mat.ext he,h.lead.ext he,h.same,h.grown.trans (he.grownS _),oJ h.size he.size⟩
theorem dK.setEl {w0 wr:World} {g0 D:Nat} {om:List (Nat×Nat)} {m:oe} {v:Value} {ld:List Nat} {tags:List (Nat×Nat)} (h:dK w0 wr g0 D om m v ld tags) (hb:∀ b,bV g0 tags b->b<D)
  {i j:Nat} {t:Nat×Nat} {r:og} (ht:tags[i]?=some t) (hr:m[i]?=some r) (hj:j<r.length) (q:Int) :
  dK w0 (wr.setCell ⟨t.1,j,none⟩ (.string (aB q))) g0 D om (m.set i (r.set j q)) v ld tags:=by
 have hgr:aG (·=t.1) wr (wr.setCell ⟨t.1,j,none⟩ (.string (aB q))):=(aG.refl (·=t.1) wr).store (S:=(·=t.1)) rfl _ _;obtain ⟨t',rO,-,-,-,hR,hne,hbq⟩:=h.mat.get hr;obtain rfl:t'=t:=oM (rO.symm.trans ht);have hlt:=hb _ hbq;exact ⟨h.mat.setRow ht hr (by rw [List.length_set]) hgr (hR.set j hj q),h.lead.grown hgr (fun b e=>by omega),h.same,h.grown.trans (hgr.weak fun b _ e=>by rw [e];exact (h.same _).1 hbq),by rw [db];exact h.size⟩
theorem dK.push {w0 wr w':World} {g0 D:Nat} {om:List (Nat×Nat)} {m:oe} {v v':Value} {ld ld':List Nat} {tags:List (Nat×Nat)} (h:dK w0 wr g0 D om m v ld tags) (hb:∀ b,bV g0 tags b->b<D) (hD:w0.heap.size<=D)
  (hB:Below D wr w') (hv:cL D w' v' ld'):dK w0 w' g0 D om m v' ld' tags:=by
 have hgr:aG (fun b=>D<=b) wr w':=⟨hB.os,hB.tape,hB.output,hB.size,fun k hk hn=>hB.block k (by omega)⟩;exact ⟨h.mat.grown hgr (fun b qY e=>by have:=hb b qY;omega),hv,h.same,T7_ h.grown hgr (fun b e=>.inl (by omega)),oJ h.size hB.size⟩
theorem dK.swap {w0 wr:World} {g0 D C:Nat} {om:List (Nat×Nat)} {m:oe} {v:Value} {ld:List Nat} {tags:List (Nat×Nat)} (h:dK w0 wr g0 D om m v ld tags) (hb:∀ b,bV g0 om b->b<D) (hr:cI C m) {k a:Nat} (hk:k<m.length) (ha:a<m.length) :
  ∃ s t,tags[k]?=some s/\tags[a]?=some t/\wr.cell? ⟨g0,k,none⟩=some (.slice (some ⟨s.1,0,none⟩) C s.2)/\wr.cell? ⟨g0,a,none⟩=some (.slice (some ⟨t.1,0,none⟩) C t.2)/\wr.frozen? ⟨g0,k,none⟩=false/\wr.frozen? ⟨g0,a,none⟩=false/\C<=s.2/\C<=t.2/\s.2<=9223372036854775807/\t.2<=9223372036854775807 /\
   dK w0 ((wr.setCell ⟨g0,k,none⟩ (.slice (some ⟨t.1,0,none⟩) C t.2)).setCell ⟨g0,a,none⟩ (.slice (some ⟨s.1,0,none⟩) C s.2)) g0 D om (bE m k a) v ld (bE tags k a) /\
   dK w0 ((wr.setCell ⟨g0,a,none⟩ (.slice (some ⟨s.1,0,none⟩) C s.2)).setCell ⟨g0,k,none⟩ (.slice (some ⟨t.1,0,none⟩) C t.2)) g0 D om (bE m a k) v ld (bE tags a k):=by
 have hk2:=oB hk;have ha2:=oB ha;obtain ⟨s,hs,c1,h1,h2,-⟩:=h.mat.get hk2;obtain ⟨t,ht,c3,h3,h4,-⟩:=h.mat.get ha2;have e1:=hr _ (oE hk2);have e2:=hr _ (oE ha2);have hsw:=h.mat.swap hs ht hk2 ha2;have hsw2:=h.mat.swap ht hs ha2 hk2;rw [e1] at c1 h1 hsw hsw2;rw [e2] at c3 h3 hsw hsw2;have hgr:∀ i j x y,aG (·=g0) wr ((wr.setCell ⟨g0,i,none⟩ x).setCell ⟨g0,j,none⟩ y):=fun i j x y=>((aG.refl (·=g0) wr).store (S:=(·=g0)) rfl _ _).store (S:=(·=g0)) rfl _ _;have yS:bV g0 om g0:=List.mem_cons_self ..;have hgl:=hb g0 yS
 refine ⟨s,t,hs,ht,c1,c3,h.mat.free k,h.mat.free a,h1,h3,h2,h4,⟨hsw,h.lead.grown (hgr _ _ _ _) (fun b e=>by omega),fun b=>(V5_ hs ht).trans (h.same b),h.grown.trans ((hgr _ _ _ _).weak fun b _ e=>by rw [e];exact yS),by rw [db,db];exact h.size⟩,
  ⟨hsw2,h.lead.grown (hgr _ _ _ _) (fun b e=>by omega),fun b=>(V5_ ht hs).trans (h.same b),h.grown.trans ((hgr _ _ _ _).weak fun b _ e=>by rw [e];exact yS),by rw [db,db];exact h.size⟩⟩
theorem Z4L {α:Type} (l:List α) (i j:Nat):bE l i j=bE l j i:=by
 by_cases h:i<l.length/\j<l.length
 ·have hi:=oB h.1;have hj:=oB h.2;apply List.ext_getElem?;intro k;rw [fO hi hj,fO hj hi];by_cases e1:k=j
  ·by_cases e2:k=i
   ·rw [if_pos e1,if_pos e2];subst e1;subst e2;rfl
   ·rw [if_pos e1,if_neg e2,if_pos e1]
  ·rw [if_neg e1];by_cases e2:k=i;·rw [if_pos e2,if_pos e2]
   ·rw [if_neg e2,if_neg e2,if_neg e1]
 ·unfold bE;by_cases h1:i<l.length;·rw [oB h1,oL (show l.length<=j by omega)]
  ·rw [oL (show l.length<=i by omega)];cases l[j]? <;> rfl
structure Z74 (m:oe) (n:Nat):Prop where
 sz:∀ c,c<=n->∀ i j,(aB (aV (bK m c).m i j)).size<=6000
 lsz:∀ c,c<=n->(aB (bK m c).last).size<=6000
 ne:∀ c,c<=n->(bK m c).last≠0
 dvd:∀ c a,c<n->(bK m c).lead.length<=a->a<m.length->aV (bK m c).m a c≠0->(∀ j,(bK m c).lead.length<=j->j<a->aV (bK m c).m j c=0)->∀ m1,m1=(if a=(bK m c).lead.length then (bK m c).m else bE (bK m c).m (bK m c).lead.length a) ->
  ∀ i j,aV m1 (bK m c).lead.length c*aV m1 i j-aV m1 i c*aV m1 (bK m c).lead.length j=(bK m c).last*((aV m1 (bK m c).lead.length c*aV m1 i j-aV m1 i c*aV m1 (bK m c).lead.length j) / (bK m c).last)
theorem Z3H {C c K:Nat} {m:oe} {E:jJ} {S:fh} (hK:1<=K) (hm:∀ i j,bT K (aF (bF m) i j)) (hRS:bY C S.m) (h:kN C c m E S) {a:Nat} (sB:E.lead.length<=a) (pT:a<m.length) (vQ:aV E.m a c≠0)
  (rK:∀ j,E.lead.length<=j->j<a->aV E.m j c=0) {m1:oe} (hm1:m1=if a=E.lead.length then E.m else bE E.m E.lead.length a) (i j:Nat) :
  E.last ∣ (aV m1 E.lead.length c*aV m1 i j-aV m1 i c*aV m1 E.lead.length j):=by
 obtain ⟨ρ,sg,x,hI,hD⟩:=h.inv;have hlen:=h.len;have h2:(E.last:Rat)≠0:=by
  intro h0;have:E.last=0:=by exact_mod_cast h0
  exact h.ne this
 have hzero:∀ i j,aV E.m i j=0↔aF S.m i j=0:=fun i j=>by
  have:=h.el i j;constructor
  ·intro h0;rw [h0] at this;rcases Rat.mul_eq_zero.1 (show (E.last:Rat)*aF S.m i j=0 by rw [<- this];rfl) with h3 | h3;·exact absurd h3 h2
   ·exact h3
  ·intro h0;rw [h0,Rat.mul_zero] at this
   exact_mod_cast this
 obtain ⟨k,hk⟩:=oc E.lead.length;have FC:k=S.lead.length:=by rw [hk,h.lead]
 rw [<- hk] at sB rK hm1 |-;rcases B7_ hI hRS with ⟨-,hz,-⟩ | ⟨b,hb1,hb2,Cu,yp,pW,tK,qW,ρ',sg',x',zj,DD⟩
 ·exact absurd ((hzero a c).2 (hz a (by omega))) vQ
 ·obtain rfl:b=a:=by
   rcases Nat.lt_trichotomy b a with h1 | h1 | h1;·exact absurd ((hzero b c).1 (rK b (by omega) h1)) Cu
   ·exact h1
   ·exact absurd ((hzero a c).2 (yp a (by omega) h1)) vQ
  rw [<- FC] at qW DD;have hkl:k<E.m.length:=by omega
  have e1:∀ i j,aV m1 i j=aV E.m (aT k b i) j:=fun i j=>by
   rw [hm1];by_cases e:b=k;·rw [if_pos e,e,lK]
   ·rw [if_neg e];exact k7_ hkl (by omega) i j
  have vA:aT k b k=b:=by unfold aT;rw [if_pos rfl]
  by_cases hik:i=k;·rw [hik,Int.sub_self];exact Int.dvd_zero _
  ·by_cases hil:i<m.length
   ·obtain ⟨p,hp⟩:=oc (aV m1 k c);have AL:(p:Rat)=(E.last:Rat)*aF S.m b c:=(by rw [hp,e1,vA];exact h.el b c);have Dz:(p:Rat)=aL (bC c S).lead.length fun i b=>aF (bF m) (ρ' i) (aw (bC c S).lead b):=by
     rw [show (bC c S).lead.length=k+1 by rw [pW,oV,<- FC];rfl,DD,AL,hD,<- FC];grind
    obtain ⟨z,hz,-⟩:=h4_ zj hm hK i j;rw [<- Dz] at hz;refine ⟨z,?_⟩;rw [<- hp];have hq:((p*aV m1 i j-aV m1 i c*aV m1 k j:Int):Rat)=((E.last*z:Int):Rat):=by
     rw [Rat.intCast_sub,Rat.intCast_mul,Rat.intCast_mul,Rat.intCast_mul,<- hz,e1,e1,e1,vA,h.el,h.el,h.el,qW,if_neg hik,AL];have:aF S.m b c*(aF S.m b j / aF S.m b c)=aF S.m b j:=(by rw [Rat.div_def,Rat.mul_comm (aF S.m b j),<- Rat.mul_assoc,Rat.mul_inv_cancel _ Cu,Rat.one_mul]);grind
    exact_mod_cast hq
   ·have sG:m1.length=E.m.length:=by
     rw [hm1];split;·rfl
     ·exact h_ _ _ _
    rw [y0_ (m:=m1) (i:=i) (x:=j) (by omega),y0_ (m:=m1) (i:=i) (x:=c) (by omega),Int.mul_zero,Int.zero_mul,Int.sub_self];exact Int.dvd_zero _
theorem e6_ {z:Int} {k:Nat} (hk:k<=13) (h:z.natAbs<=dX 1000000000 k):(aB z).size<=131:=by
 have h1:bT (dX 1000000000 13) (z:Rat):=⟨z,rfl,oJ h (nG (by omega) hk)⟩;have h2:=h1.rs.1;rw [show ((z:Rat)).num=z from rfl] at h2;exact h2
theorem Z5t {C:Nat} {m:oe} (hr:cI C m) (hl:m.length<=12) (hm:∀ i j,bT 1000000000 (aF (bF m) i j)) (n:Nat):Z74 m n where
 sz:=fun c _ i j=>oJ (e6_ (k:=m.length+1) (by omega) (((lZ (by omega) hm hr c).small (by omega) hm).1 i j)) (by omega)
 lsz:=fun c _=>oJ (e6_ (k:=m.length+1) (by omega) ((lZ (by omega) hm hr c).small (by omega) hm).2) (by omega)
 ne:=fun c _=>(lZ (by omega) hm hr c).ne
 dvd:=fun c a _ h1 h2 h3 h4 m1 hm1 i j=>by
  have hB:=lZ (K:=1000000000) (by omega) hm hr c;exact (Int.mul_ediv_cancel' (Z3H (by omega) hm (lE (P0_ hr) c).1 hB h1 h2 h3 h4 hm1 i j)).symm
theorem Z6m (w:World) (r q:og) (n m:Nat) (hn:n=r.length) (hm:m=q.length) (T T1 T2:TypeId) (hb:∀ x∈r++q,-9223372036854775808<=x/\x<=9223372036854775807) (hl:r.length<=100) (sw:q.length<=100) (C D:Array Value) (hC:C=(r.map (Value.int .i64)).toArray) (hD:D=(q.map (Value.int .i64)).toArray) :
  bN (((w.alloc (.cells C T)).alloc (.cells D T1)).alloc (.cells #[.slice (some ⟨w.heap.size,0,none⟩) n n,.slice (some ⟨w.heap.size+1,0,none⟩) m m] T2)) (.slice (some ⟨w.heap.size+1+1,0,none⟩) 2 2) [r,q]:=by
 subst hC;subst hn;subst hD;subst hm;have h1:=(bL.lit w r T (by unfold maxLen;omega) (fun x hx=>hb x (List.mem_append_left _ hx))).ext (aA.alloc _ (.cells (q.map (Value.int .i64)).toArray T1));have h2:=bL.lit (w.alloc (.cells (r.map (Value.int .i64)).toArray T)) q T1 (by unfold maxLen;omega) (fun x hx=>hb x (List.mem_append_right _ hx));rw [World.size_alloc] at h2
 have:=aH.lit (R:=bL) (fun _ _ _ _ he h=>bL.ext h he) ((w.alloc (.cells (r.map (Value.int .i64)).toArray T)).alloc (.cells (q.map (Value.int .i64)).toArray T1)) [.slice (some ⟨w.heap.size,0,none⟩) r.length r.length,.slice (some ⟨w.heap.size+1,0,none⟩) q.length q.length] [r,q] T2 rfl (by unfold maxLen;simp) (fun j u x hu hx=>by
  match j with
  | 0=>simp only [oQ,Option.some.injEq] at hu hx;subst hu;subst hx;exact h1
  | 1=>simp only [oP,oQ,Option.some.injEq] at hu hx;subst hu;subst hx;exact h2
  | j+2=>simp at hu)
 simpa using this
theorem K0_ (w:World) (xs:og) (C:Array Value) (T:TypeId) (n:Nat) (hC:C=(xs.map fun x=>Value.string (aB x)).toArray) (hn:n=xs.length) (hl:xs.length<=1000):aH 1 numC (w.alloc (.cells C T)) (.slice (some ⟨w.heap.size,0,none⟩) n n) xs:=by
 subst hC;subst hn;have yl:(xs.map fun x=>[Value.string (aB x)]).flatten=xs.map fun x=>Value.string (aB x):=di (fun x=>Value.string (aB x)) xs;refine ⟨xs.map fun x=>[.string (aB x)],by simp,by simp,⟨some ⟨w.heap.size,0,none⟩,xs.length,by simp,Nat.le_of_eq (by simp),by unfold maxLen;omega,(fun h=>by cases h),fun _=>⟨w.heap.size,0,rfl,by simp,fun j u hu=>?_⟩⟩,?_⟩
 ·rw [yl] at hu;rw [World.cell?_alloc_new,Nat.zero_add];simpa using hu
 ·intro j u x hu hx;rw [oF,hx] at hu;exact (oM hu).symm
theorem Z72:aB 0=⟨#[48]⟩/\aB 1=⟨#[49]⟩/\aB 4=⟨#[52]⟩/\aB (-4)=⟨#[45,52]⟩:=by decide +kernel
theorem Z6M:cE [[1,0,-4],[0,1,4]] 2=[1,4,4]:=by decide +kernel
theorem Z6N:Z5q 3 2 [1,4,4]=[4,-4,1]:=by decide +kernel
theorem Z6O:Z6L 3 2 [1,4,4] [1,0,0]=[0,1,4]:=by decide +kernel
theorem Z6P:∃ R,fX 10 3 2 [1,4,4]=some R/\R.length=2/\kZ 3 10 R=some [[1,0,-4],[0,1,4]]:=by
 refine ⟨(fX 10 3 2 [1,4,4]).getD [],?_⟩;decide +kernel
theorem Z6Q:∃ R,fX 10 4 2 [1,0,0,0,0,1]=some R/\R.length≠2:=by
 refine ⟨(fX 10 4 2 [1,0,0,0,0,1]).getD [],?_⟩;decide +kernel
theorem E6_ {X:og} (h:(X.all fun x=>decide (x.natAbs<=1000))=true):lQ X:=fun x hx=>by
 have h1:=of_decide_eq_true (List.all_eq_true.1 h x hx);exact Nat.lt_of_le_of_lt h1 (by decide +kernel)
theorem Z38:fS 3 2 [1,4,4]:=⟨by decide,by decide,by decide +kernel,E6_ (by decide)⟩
theorem Z6t:fS 4 2 [1,0,0,0,0,1]:=⟨by decide,by decide,by decide +kernel,E6_ (by decide)⟩
theorem nh {w:World} {u:Value} {n k:Nat} {X:og} (h:dO w u n k X):∃ a c,u=.agg #[.int .i64 n,.int .i64 k,.slice a X.length c]/\aH 1 numC w (.slice a X.length c) X:=by
 obtain ⟨r,rfl,hr⟩:=h;obtain ⟨a,c,rfl,-⟩:=aH.open hr;exact ⟨a,c,rfl,hr⟩
theorem j6_ (w:World) (pD:fQ w) (hb:4<w.heap.size) :
  oX 13 #[] w (.bool true):=by
 have HOF:Hid (∀ W v,aA w W->bN W v [[1,0,-4],[0,1,4]]->Calls prog 15 #[v,.int .i64 3] W fun e w'=>∃ a c,e=.returned (.tuple #[.agg #[.int .i64 3,.int .i64 2,.slice a 3 c],.int .i64 0])/\aH 1 numC w' (.slice a 3 c) [1,4,4]/\aA W w'):=fun W v hW hv=>by
  have hE:cK [[1,0,-4],[0,1,4]]=0:=by decide +kernel
  refine (Z3z [[1,0,-4],[0,1,4]] 3 [1,4,4] v W hv hE (by decide) (by decide) (by decide) (fun W' hW'=>?_)).mono fun e w' ⟨u,h1,h2,h3⟩=>?_
  ·have h9:=C9_ [[1,0,-4],[0,1,4]] 2 v W' (hv.ext hW') hE (by decide) (by decide) (by decide +kernel) (N8_ hE (by decide) (by decide)) (pD.pow.ext (hW.trans hW'));rw [Z6M] at h9;exact h9
  ·obtain ⟨a,c,rfl,h4⟩:=nh h3;exact ⟨a,c,h1,h4,h2⟩
 have Jq:Hid (∀ W a c,aA w W->aH 1 numC W (.slice a 3 c) [1,4,4]->Calls prog 28 #[.agg #[.int .i64 3,.int .i64 2,.slice a 3 c]] W fun e w'=>∃ a c,e=.returned (.tuple #[.agg #[.int .i64 3,.int .i64 1,.slice a 3 c],.int .i64 0])/\aH 1 numC w' (.slice a 3 c) [4,-4,1]/\aA W w'):=fun W a c hW hv=>by
  refine (Z1T (n:=3) (k:=2) (X:=[1,4,4]) (by decide) Z38 _ W ⟨_,rfl,hv⟩).mono fun e w' ⟨u,h1,h2,h3⟩=>?_;rw [Z6N] at h3;obtain ⟨a,c,rfl,h4⟩:=nh h3;exact ⟨a,c,h1,h4,h2⟩
 have Dc:Hid (∀ W a c v,aA w W->aH 1 numC W (.slice a 3 c) [1,4,4]->bL W v [1,0,0]->Calls prog 25 #[.agg #[.int .i64 3,.int .i64 2,.slice a 3 c],v] W fun e w'=>∃ a c,e=.returned (.tuple #[.agg #[.int .i64 3,.int .i64 1,.slice a 3 c],.int .i64 0])/\aH 1 numC w' (.slice a 3 c) [0,1,4]/\aA W w'):=fun W a c v hW hv hi=>by
  refine (Z4a (n:=3) (k:=2) (X:=[1,4,4]) (r:=[1,0,0]) (by decide) Z38 (by decide) rfl (by decide) _ v W ⟨_,rfl,hv⟩ hi (pD.pow.ext hW)).mono fun e w' ⟨u,h1,h2,h3⟩=>?_;rw [Z6O] at h3;obtain ⟨a,c,rfl,h4⟩:=nh h3;exact ⟨a,c,h1,h4,h2⟩
 have HLA:Hid (∀ W a c,aA w W->aH 1 numC W (.slice a 3 c) [1,4,4]->Calls prog 36 #[.agg #[.int .i64 3,.int .i64 2,.slice a 3 c]] W fun e w'=>∃ v,e=.returned (.tuple #[v,.int .i64 0])/\aA W w'/\bN w' v [[1,0,-4],[0,1,4]]):=fun W a c hW hv=>by
  obtain ⟨R,hk,hl,hf⟩:=Z6P;exact Z2r 10 10 (n:=3) (k:=2) (X:=[1,4,4]) (by decide) (by decide) Z38 _ W ⟨_,rfl,hv⟩ R _ (by decide +kernel) hk hl hf (by decide) (pD.ext hW) (oI hb hW.size)
 have Jr:Hid (∀ W v,aA w W->aH 1 numC W v [1,0,0,0,0,1]->oX 35 #[.agg #[.int .i64 4,.int .i64 2,v]] W (.tuple #[.bool false,.int .i64 0])):=fun W v hW hv=>by
  obtain ⟨R,hk,hl⟩:=Z6Q;have h9:=k3_ 10 (n:=4) (k:=2) (X:=[1,0,0,0,0,1]) (by decide) (by decide) Z6t _ W ⟨_,rfl,hv⟩ R hk (pD.pow.ext hW) (oI hb hW.size);rw [oS hl,oS (show ¬ bW [1,0,0,0,0,1]=0 by decide +kernel)] at h9;exact h9
 have Gh:Hid (∀ (W:World) (k:Nat) (a:Option Addr) (c:Nat) (v:Value) (X:og),aH 1 numC W (.slice a 3 c) X->aH 1 numC W v X->oX 17 #[.agg #[.int .i64 3,.int .i64 k,.slice a 3 c],.agg #[.int .i64 3,.int .i64 k,v]] W (.bool true)):=fun W k a c v X h1 h2=>by
  have h9:=Z3b 3 k X 3 k X _ _ W ⟨_,rfl,h1⟩ ⟨_,rfl,h2⟩;rw [show eG 3 k X 3 k X=true by unfold eG;simp] at h9;exact h9
 obtain ⟨t0,t1,t4,t5⟩:=Z72;have HL1:Hid (∀ W:World,aH 1 numC (W.alloc (.cells #[.string ⟨#[49]⟩,.string ⟨#[52]⟩,.string ⟨#[52]⟩] 53)) (.slice (some ⟨W.heap.size,0,none⟩) 3 3) [1,4,4]):=fun W=>K0_ W [1,4,4] _ _ 3 (by simp [t1,t4]) rfl (by decide);have HL2:Hid (∀ W:World,aH 1 numC (W.alloc (.cells #[.string ⟨#[52]⟩,.string ⟨#[45,52]⟩,.string ⟨#[49]⟩] 53)) (.slice (some ⟨W.heap.size,0,none⟩) 3 3) [4,-4,1]):=fun W=>K0_ W [4,-4,1] _ _ 3 (by simp [t1,t4,t5]) rfl (by decide);have HL3:Hid (∀ W:World,aH 1 numC (W.alloc (.cells #[.string ⟨#[48]⟩,.string ⟨#[49]⟩,.string ⟨#[52]⟩] 53)) (.slice (some ⟨W.heap.size,0,none⟩) 3 3) [0,1,4]):=fun W=>K0_ W [0,1,4] _ _ 3 (by simp [t0,t1,t4]) rfl (by decide);have HL4:Hid (∀ W:World,aH 1 numC (W.alloc (.cells #[.string ⟨#[49]⟩,.string ⟨#[48]⟩,.string ⟨#[48]⟩,.string ⟨#[48]⟩,.string ⟨#[48]⟩,.string ⟨#[49]⟩] 53)) (.slice (some ⟨W.heap.size,0,none⟩) 6 6) [1,0,0,0,0,1]):=fun W=>K0_ W [1,0,0,0,0,1] _ _ 6 (by simp [t0,t1]) rfl (by decide);clear pD hb t0 t1 t4 t5
 go_enter func13,ntmps13
 have hm1:=Z6m w [1,0,-4] [0,1,4] 3 3 rfl rfl 3 3 27 (by decide) (by decide) (by decide) #[.int .i64 1,.int .i64 0,.int .i64 (-4)] #[.int .i64 0,.int .i64 1,.int .i64 4] rfl rfl;have HM1:=oA hm1;clear hm1;go_wp2_with fail;refine (HOF _ _ ((aA.alloc _ _).trans ((aA.alloc _ _).trans (aA.alloc _ _))) HM1).mono ?_;rintro e w1 ⟨a1,c1,rfl,xm,hE1⟩;have HE1:=oA (((aA.alloc w (.cells #[.int .i64 1,.int .i64 0,.int .i64 (-4)] 3)).trans ((aA.alloc _ _).trans (aA.alloc _ _))).trans hE1);have HR1:=oA xm;clear hE1 xm HM1 HOF;obtain ⟨V1,LS,wH,hs1,hb1⟩:=ep w1 (.int .i64 0) (.int .i64 0) (.slice none 0 0);have r0:=aO hb1;have f0:=cD hb1;have HB1:=oA (fL hb1 (.int .i64 3) (.int .i64 2) (.slice a1 3 c1));have HX1:=oA (eY (B:=w1.heap.size) wH (oK _) (.int .i64 3) (.int .i64 2) (.slice a1 3 c1));obtain ⟨U1,Iw⟩:=oZ (((V1.setCell ⟨w1.heap.size,0,none⟩ (.int .i64 3)).setCell ⟨w1.heap.size,1,none⟩ (.int .i64 2)).setCell ⟨w1.heap.size,2,none⟩ (.slice a1 3 c1));rw [Iw] at HB1 HX1;clear wH hs1 hb1;have Dh:Hid (aA w U1):=HE1.trans HX1;have HRU1:=oA (aH.ext numC.mono' HR1 HX1);have s1:=aO HB1;go_wp2_with fail;clear Iw LS r0 f0;refine (Jq _ _ _ Dh HRU1).mono ?_;rintro e w2 ⟨a2,c2,rfl,hR2,hE2⟩;have HE2:Hid (aA w w2):=Dh.trans hE2;have HB12:=oA (aJ HB1 hE2);have HR12:=oA (aH.ext numC.mono' HRU1 hE2);have HR2:=oA hR2;clear hE2 hR2 Jq s1;obtain ⟨V2,LR,Cz,hs2,hb2⟩:=ep w2 (.int .i64 0) (.int .i64 0) (.slice none 0 0);have r0:=aO hb2;have f0:=cD hb2;have HB2:=oA (fL hb2 (.int .i64 3) (.int .i64 1) (.slice a2 3 c2));have HX2:=oA (eY (B:=w2.heap.size) Cz (oK _) (.int .i64 3) (.int .i64 1) (.slice a2 3 c2));obtain ⟨U2,EB⟩:=oZ (((V2.setCell ⟨w2.heap.size,0,none⟩ (.int .i64 3)).setCell ⟨w2.heap.size,1,none⟩ (.int .i64 1)).setCell ⟨w2.heap.size,2,none⟩ (.slice a2 3 c2));rw [EB] at HB2 HX2;clear Cz hs2 hb2;have Dg:Hid (aA w U2):=HE2.trans HX2;have HRU2:=oA (aH.ext numC.mono' HR2 HX2);have HB1U:=oA (aJ HB12 HX2);have HR1U:=oA (aH.ext numC.mono' HR12 HX2);have s1:=aO HB1U;have hx3:=bL.lit U2 [1,0,0] 3 (by unfold maxLen;decide) (by decide);have e3:([1,0,0]:og).map (Value.int .i64)=[.int .i64 1,.int .i64 0,.int .i64 0]:=rfl;rw [e3] at hx3;have HX3I:=oA hx3;obtain ⟨L3,C7⟩:=oZ (U2.alloc (.cells #[.int .i64 1,.int .i64 0,.int .i64 0] 3));have A9:Hid (aA U2 L3):=by rw [<- C7];exact aA.alloc _ _
 have GV:Hid (bL L3 (.slice (some ⟨U2.heap.size,0,none⟩) 3 3) [1,0,0]):=by rw [<- C7];exact HX3I
 have HR1L:=oA (aH.ext numC.mono' HR1U A9);have Hg:Hid (aA w L3):=Dg.trans A9;clear hx3 e3 HX3I;go_wp2_with fail;clear EB LR r0 f0;refine (Dc _ _ _ _ Hg HR1L GV).mono ?_;rintro e w3 ⟨a3,c3,rfl,I5,oz⟩;have xv:Hid (aA U2 w3):=A9.trans oz;have HE3:Hid (aA w w3):=Dg.trans xv;have HB13:=oA (aJ HB1U xv);have HR13:=oA (aH.ext numC.mono' HR1U xv);have HB23:=oA (aJ HB2 xv);have HR23:=oA (aH.ext numC.mono' HRU2 xv);have HR3:=oA I5;clear oz I5 Dc s1 C7;obtain ⟨V3,LQ,It,hs3,pf⟩:=ep w3 (.int .i64 0) (.int .i64 0) (.slice none 0 0);have r0:=aO pf;have f0:=cD pf;have HB3:=oA (fL pf (.int .i64 3) (.int .i64 1) (.slice a3 3 c3));have HX3:=oA (eY (B:=w3.heap.size) It (oK _) (.int .i64 3) (.int .i64 1) (.slice a3 3 c3));obtain ⟨U3,Ba⟩:=oZ (((V3.setCell ⟨w3.heap.size,0,none⟩ (.int .i64 3)).setCell ⟨w3.heap.size,1,none⟩ (.int .i64 1)).setCell ⟨w3.heap.size,2,none⟩ (.slice a3 3 c3));rw [Ba] at HB3 HX3;clear It hs3 pf;have BG:Hid (aA w U3):=HE3.trans HX3;have HRU3:=oA (aH.ext numC.mono' HR3 HX3);have HB1V:=oA (aJ HB13 HX3);have HR1V:=oA (aH.ext numC.mono' HR13 HX3);have HB2V:=oA (aJ HB23 HX3);have HR2V:=oA (aH.ext numC.mono' HR23 HX3);have s1:=aO HB1V;go_wp2_with fail;clear Ba LQ r0 f0;refine (HLA _ _ _ BG HR1V).mono ?_;rintro e w4 ⟨v4,rfl,hE4,yv⟩;have DJ:Hid (aA U3 w4):=hE4;have HR4:=oA yv;obtain ⟨a4,c4,rfl,-⟩:=aH.open yv;obtain ⟨w5,z8⟩:=oZ (w4.alloc (.cells #[.string ⟨#[49]⟩,.string ⟨#[48]⟩,.string ⟨#[48]⟩,.string ⟨#[48]⟩,.string ⟨#[48]⟩,.string ⟨#[49]⟩] 53));have HL5:=oA (HL4 w4);have y7:Hid (aA w4 w5):=by rw [<- z8];exact aA.alloc _ _
 rw [z8] at HL5;clear hE4 yv HLA s1 HL4;go_wp2_with fail;clear z8;refine (Jr _ _ (BG.trans (DJ.trans y7)) HL5).mono ?_;rintro e w6 ⟨rfl,ou⟩;have Az:Hid (aA w4 w6):=y7.trans ou;have vG:Hid (aA U3 w6):=DJ.trans Az;have HE6:Hid (aA w w6):=BG.trans vG;have HB16:=oA (aJ HB1V vG);have HB26:=oA (aJ HB2V vG);have HB36:=oA (aJ HB3 vG);have HR16:=oA (aH.ext numC.mono' HR1V vG);have HR26:=oA (aH.ext numC.mono' HR2V vG);have HR36:=oA (aH.ext numC.mono' HRU3 vG);have HR46:=oA (bN.ext HR4 Az);clear ou Jr;have s1:=aO HB16;obtain ⟨L6,GF⟩:=oZ (w6.alloc (.cells #[.string ⟨#[49]⟩,.string ⟨#[52]⟩,.string ⟨#[52]⟩] 53));have HN6:=oA (HL1 w6);have HX6:Hid (aA w6 L6):=by rw [<- GF];exact aA.alloc _ _
 rw [GF] at HN6;go_wp2_with fail;clear GF;refine (Gh _ 2 _ _ _ _ (aH.ext numC.mono' HR16 HX6) HN6).mono ?_;rintro e w7 ⟨rfl,qy⟩;have wK:Hid (aA w6 w7):=HX6.trans qy;have HE7:Hid (aA w w7):=HE6.trans wK;have HB27:=oA (aJ HB26 wK);have HB37:=oA (aJ HB36 wK);have HR27:=oA (aH.ext numC.mono' HR26 wK);have HR37:=oA (aH.ext numC.mono' HR36 wK);have HR47:=oA (bN.ext HR46 wK);clear qy s1;have s1:=aO HB27;obtain ⟨L7,GD⟩:=oZ (w7.alloc (.cells #[.string ⟨#[52]⟩,.string ⟨#[45,52]⟩,.string ⟨#[49]⟩] 53));have HN7:=oA (HL2 w7);have HX7:Hid (aA w7 L7):=by rw [<- GD];exact aA.alloc _ _
 rw [GD] at HN7;go_wp2_with fail;clear GD;refine (Gh _ 1 _ _ _ _ (aH.ext numC.mono' HR27 HX7) HN7).mono ?_;rintro e w8 ⟨rfl,va⟩;have y6:Hid (aA w7 w8):=HX7.trans va;have HE8:Hid (aA w w8):=HE7.trans y6;have HB38:=oA (aJ HB37 y6);have HR38:=oA (aH.ext numC.mono' HR37 y6);have HR48:=oA (bN.ext HR47 y6);clear va s1;have s1:=aO HB38;obtain ⟨L8,GC⟩:=oZ (w8.alloc (.cells #[.string ⟨#[48]⟩,.string ⟨#[49]⟩,.string ⟨#[52]⟩] 53));have HN8:=oA (HL3 w8);have HX8:Hid (aA w8 L8):=by rw [<- GC];exact aA.alloc _ _
 rw [GC] at HN8;go_wp2_with fail;clear GC;refine (Gh _ 1 _ _ _ _ (aH.ext numC.mono' HR38 HX8) HN8).mono ?_;rintro e w9 ⟨rfl,xt⟩;have DI:Hid (aA w8 w9):=HX8.trans xt;have HE9:Hid (aA w w9):=HE8.trans DI;have HR49:=oA (bN.ext HR48 DI);clear xt s1;have hm9:=Z6m w9 [1,0,-4] [0,1,4] 3 3 rfl rfl 3 3 27 (by decide) (by decide) (by decide) #[.int .i64 1,.int .i64 0,.int .i64 (-4)] #[.int .i64 0,.int .i64 1,.int .i64 4] rfl rfl;have HQ9:=oA (S4_ [[1,0,-4],[0,1,4]] [[1,0,-4],[0,1,4]] _ _ _ (HR49.ext ((aA.alloc _ _).trans ((aA.alloc _ _).trans (aA.alloc _ _)))) hm9);have zd:(([[1,0,-4],[0,1,4]]:oe) == [[1,0,-4],[0,1,4]])=true:=by decide
 rw [zd] at HQ9;clear hm9 zd;go_wp2_with fail;refine HQ9.mono ?_;rintro e Ju ⟨rfl,DC⟩;have Hi:Hid (aA w Ju):=HE9.trans (((aA.alloc w9 (.cells #[.int .i64 1,.int .i64 0,.int .i64 (-4)] 3)).trans ((aA.alloc _ _).trans (aA.alloc _ _))).trans DC);clear DC HQ9;go_wp2_with fail;go_ret;exact ⟨rfl,Hi⟩
def kh {α:Type} (p:α->Bool) (xs:List α):Int:=match xs.findIdx? p with | some i=>(i:Int) | none=>-1
def Z5b {α:Type} (R:World->Value->α->Prop) (g:Nat) (lb:Array Value) (p:α->Bool) (w:World) (xs:List α):Prop :=
 ∀ W x a,x∈xs->aA w W->R W a x->Calls prog g (#[a]++lb) W fun e W'=>e=.returned (.bool (p x))/\aA W W'
theorem M6_ {α:Type} {R:World->Value->α->Prop} (hR:∀ w w' v x,aA w w'->R w v x->R w' v x) (xs:List α) (v:Value) (g:Nat) (lb:Array Value) (p:α->Bool) (w:World) (h:aH 1 (bc R) w v xs) (eg:∀ args w,(callFunc g args).run prog w=.ok (.enter g args) w) (hp:Z5b R g lb p w xs) :
  oX 91 #[v,.func (.func g) #[] lb] w (.int .i64 (kh p xs)):=by
 obtain ⟨a,c,rfl,h1,h2,-,hc⟩:=bc.open h;have HC:=oA hc;have HPR:=oA hp;have HR:=oA hR;clear hc h hp hR;unfold maxLen at h2
 go_enter func91,ntmps91
 go_wp2
 go_loopw [8] (fun t wr=>∃ pre rest,t=.int .i64 (pre.length:Nat)/\aA w wr/\Hid (xs=pre++rest)/\Hid (∀ x∈pre,p x=false)) (fun t _=>xs.length-(intOf t).toNat)
 case atStart=>exact ⟨[],xs,rfl,aA.refl _,rfl,by intro x hx;simp at hx⟩
 case round =>
  obtain ⟨pre,rest,rfl,hE,HP,HA⟩:=hrel;obtain ⟨wo,rfl⟩:∃ wo:World,wo=wr:=⟨_,rfl⟩;have hlen:xs.length=pre.length+rest.length:=by rw [HP.out];simp
  cases rest with
  | nil =>
   have:¬ (pre.length<xs.length):=(by simp at hlen;omega);clear hlen
   go_wp2
   go_ret;have:kh p xs=-1:=by
    have:xs.findIdx? p=none:=(by rw [HP.out,List.append_nil,List.findIdx?_eq_none_iff];exact HA);unfold kh;rw [this]
   rw [this];exact ⟨rfl,hE⟩
  | cons x rest =>
   have hlt:pre.length<xs.length:=(by simp at hlen;omega);clear hlen;obtain ⟨b,off,rfl,hb,hcell⟩:=HC (by rw [HP.out];simp);obtain ⟨vx,qg,hcx⟩:=hcell pre.length x (by rw [HP.out];simp);have g1:=hE.cell hcx;have hcall:=HPR wo x vx (by rw [HP.out];simp) hE (HR _ _ _ _ hE qg);clear hcell qg hcx;cases hq:p x with
   | true =>
    have HRR:Hid (kh p xs=pre.length):=by
     unfold Hid kh;rw [HP.out,List.findIdx?_append,(List.findIdx?_eq_none_iff (xs:=pre)).2 HA.out,List.findIdx?_cons,hq];simp
    rw [hq] at hcall;have HCALL:=oA hcall;clear hcall hq;go_wp2_with (go_at_fn g;refine HCALL.mono ?_;rintro e w' ⟨rfl,tR⟩);go_ret;rw [HRR.out];exact ⟨rfl,hE.trans (by assumption)⟩
   | false =>
    have BL:Hid (∀ y∈pre++[x],p y=false):=by
     intro y hy;rcases List.mem_append.1 hy with hy | hy;·exact HA y hy
     ·rw [List.mem_singleton.1 hy];exact hq
    rw [hq] at hcall;have HCALL:=oA hcall;clear hcall hq;go_wp2_with (go_at_fn g;refine HCALL.mono ?_;rintro e w' ⟨rfl,tR⟩);go_roundw
    case rel=>exact ⟨pre++[x],rest,by simp,hE.trans (by assumption),by unfold Hid;rw [HP.out];simp,BL⟩
    case measure=>simp [intOf];omega
end Go.Proofs.YtjlkkofmojgipaaGreatDoor
