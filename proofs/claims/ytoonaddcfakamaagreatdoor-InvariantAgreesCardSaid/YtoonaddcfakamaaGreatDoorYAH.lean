import Derived.Test.YtoonaddcfakamaaGreatDoorYAG
import Derived.Deep.Cut
import Derived.Test.YtoonaddcfakamaaGreatDoorYAF
import Derived.Test.YtoonaddcfakamaaGreatDoorYAA
set_option linter.unusedVariables false
set_option linter.unusedSimpArgs false
set_option maxRecDepth 1000000
set_option maxHeartbeats 4000000
namespace Go.Proofs.YtoonaddcfakamaaGreatDoor
open Go.RowKit Go.Proofs.Tryz
def gd (r:oQ):Int:=f_ (· != 0) r
def jD (xs:oP) (i:Nat):Int:=if i=0 then -1 else gd (xs.getD (i-1) [])
def gw (p:Nat) (r x:oQ):Bool:=decide (x.getD p 0<0) || decide (r.getD p 0<=x.getD p 0)
def ic (xs:oP) (i:Nat):Bool :=
 decide (jD xs i<gd (xs.getD i [])) && decide (0<=(xs.getD i []).getD (gd (xs.getD i [])).toNat 0) && !(xs.take i).any (gw (gd (xs.getD i [])).toNat (xs.getD i []))
def fW (xs:oP):Bool:=(List.range xs.length).all (ic xs)
theorem Z4O (r:oQ):gd r<r.length:=by
 unfold gd f_;cases h:r.findIdx? (· != 0) with
 | none=>show (-1:Int)<_;omega
 | some i=>obtain ⟨hi,-⟩:=List.findIdx?_eq_some_iff_getElem.1 h;show (i:Int)<_;omega
theorem Z1l (r:oQ):-1<=gd r:=by
 unfold gd f_;cases h:r.findIdx? (· != 0) with
 | none=>show (-1:Int)<=-1;omega
 | some i=>show (-1:Int)<=i;omega
theorem aR.take1 {α:Type} {k:Nat} {R:World->List Value->α->Prop} {w:World} {b off c:Nat} {xs:List α} (h:aR k R w (.slice (some ⟨b,off,none⟩) xs.length c) xs) (j:Nat) (hj:j<=xs.length):aR k R w (.slice (some ⟨b,off,none⟩) j c) (xs.take j):=by
 obtain ⟨us,h1,h2,⟨a,cap,hv,h3,h4,h5,h6⟩,h7⟩:=h;simp only [Value.slice.injEq,true_and] at hv;obtain ⟨rfl,rfl⟩:=hv;have hlen:(xs.take j).length=j:=by rw [ny];omega
 refine ⟨us.take j,by rw [ny,ny];omega,fun u hu=>h2 u (List.mem_of_mem_take hu),?_,fun i u x hu hx=>?_⟩
 ·rw [hlen];refine ⟨_,_,rfl,by omega,h4,h5,fun hne=>?_⟩;have y7:us.flatten=(us.take j).flatten++(us.drop j).flatten:=by rw [<- List.flatten_append,List.take_append_drop]
  obtain ⟨b',off',ha,hb,hc⟩:=h6 (by rw [y7];intro e;exact hne (List.append_eq_nil_iff.1 e).1);refine ⟨b',off',ha,hb,fun i u hu=>hc i u ?_⟩;rw [y7,oB (nt.1 hu).1];exact hu
 ·rw [List.getElem?_take] at hu hx
  split at hu
  ·rw [if_pos (by assumption)] at hx;exact h7 i u x hu hx
  ·cases hu
theorem c9_ (xs:oP) (i:Nat):-1<=jD xs i:=by
 unfold jD;split;·omega
 ·exact Z1l _
theorem F5_ (f:Nat->Bool) (j:Nat):(List.range (j+1)).all f=((List.range j).all f && f j):=by
 rw [List.range_succ,List.all_append];simp
theorem Z3i {xs:oP} {j:Nat} (hj:j<xs.length) (h:ic xs j=false):fW xs=false:=by
 unfold fW;rw [List.all_eq_false];exact ⟨j,List.mem_range.2 hj,by simp [h]⟩
theorem l9_ (x r:oQ) (p gp gr:Nat) (vx vr:Value) (w:World) (hx:aK w vx x) (hr:aK w vr r) (cp:w.cell? ⟨gp,0,none⟩=some (.int .i64 p)) (cr:w.cell? ⟨gr,0,none⟩=some vr) (Hi:p<x.length) (rG:p<r.length) :
  oL 309 #[vx,.pointer (some ⟨gp,0,none⟩),.pointer (some ⟨gr,0,none⟩)] w (.bool (gw p r x)):=by
 obtain ⟨ax,cx,rfl,x1,x2,-,xb,xc⟩:=hx.open;obtain ⟨ar,cr',rfl,r1,r2,-,rb,rc⟩:=hr.open;obtain ⟨bx,ox,rfl,-,xcell⟩:=xc (by intro e;simp [e] at Hi);obtain ⟨br,or,rfl,-,rcell⟩:=rc (by intro e;simp [e] at rG);obtain ⟨a,ha⟩:∃ a,x[p]?=some a:=⟨_,ns Hi⟩;obtain ⟨b,hb⟩:∃ b,r[p]?=some b:=⟨_,ns rG⟩;have ga:=xcell p a ha;have gb:=rcell p b hb;have HV:Hid (gw p r x=(decide (a<0) || decide (b<=a))):=by
  unfold Hid gw;rw [nu,nu,ha,hb];rfl
 rw [HV.out];unfold maxLen at x2 r2;clear ha hb xb rb xc rc xcell rcell hx hr HV;by_cases h1:a<0
 ·have d1:decide (a<0)=true:=oH h1
  go_enter func309,ntmps309
  go_wp2_with fail
  go_quiet (fail)
  go_wp2_with fail;go_ret;exact ⟨by simp [h1],aA.drewN _ _⟩
 ·have d1:decide (a<0)=false:=oG h1;by_cases h2:b<=a
  ·have d2:decide (b<=a)=true:=oH h2
   go_enter func309,ntmps309
   go_wp2_with fail
   go_quiet (fail)
   go_wp2_with fail;go_ret;exact ⟨by simp [h1,h2],aA.drewN _ _⟩
  ·have d2:decide (b<=a)=false:=oG h2
   go_enter func309,ntmps309
   go_wp2_with fail
   go_quiet (fail)
   go_wp2_with fail;go_ret;exact ⟨by simp [h1,h2],aA.drewN _ _⟩
theorem a8_ (xss:oP) (v:Value) (n:Nat) (w:World) (h:aV w v xss) (hn:∀ r∈xss,r.length=n) :
  oL 244 #[v] w (.bool (fW xss)):=by
 have HX:=np h;have HN:=np hn;obtain ⟨a,c,rfl,h1,h2,-,hc⟩:=aP.open h;have HC:=np hc;unfold maxLen at h2;clear h hc hn
 go_enter func244,ntmps244
 go_wp2_with fail
 go_loopw [9,3] (fun t b wr=>∃ j:Nat,j<=xss.length/\t=.int .i64 j/\b=.int .i64 (jD xss j)/\aA w wr/\Hid ((List.range j).all (ic xss)=true)) (fun t _ _=>xss.length-(intOf t).toNat)
 case atStart=>exact ⟨0,by omega,rfl,rfl,aA.refl _,rfl⟩
 case round =>
  obtain ⟨j,hj,rfl,rfl,hE,HA⟩:=hrel;obtain ⟨wo,rfl⟩:∃ wo:World,wo=wr:=⟨_,rfl⟩;have HE:=np hE;by_cases hlt:j<xss.length
  ·obtain ⟨r,hr⟩:∃ r,xss[j]?=some r:=⟨_,ns hlt⟩;obtain ⟨b,off,rfl,hb,hcell⟩:=HC (by intro e;simp [e] at hlt);obtain ⟨vr,rn,sW⟩:=hcell j r hr;obtain ⟨ar,cr,rfl,r1,r2,-,rb,rc⟩:=rn.open;unfold maxLen at r2;have g1:=hE.cell sW;have HR:=np (aK.ext rn hE);have HRn:=np (HN r (nw hr));have HP:=np (fun W (hW:aA wo W)=>x5_ r _ W (aK.ext HR hW));have HG:Hid (xss.getD j []=r):=(by unfold Hid;rw [nu,hr];rfl);obtain ⟨p,hp⟩:∃ p:Int,f_ (· != 0) r=p:=⟨_,rfl⟩;obtain ⟨q,hq⟩:∃ q:Int,jD xss j=q:=⟨_,rfl⟩;rw [hp] at HP;have Jy:p<r.length:=(by rw [<- hp];exact Z4O r);have Jz:-1<=p:=(by rw [<- hp];exact Z1l r);have HOK:Hid (ic xss j=(decide (q<p) && decide (0<=r.getD p.toNat 0) && !(xss.take j).any (gw p.toNat r))):=by
    unfold Hid ic gd;rw [HG.out,hp,hq]
   have HQ2:Hid (jD xss (j+1)=p):=by
    unfold Hid jD;rw [if_neg (by omega),Nat.add_sub_cancel,HG.out];exact hp
   rw [hq];have HTK:Hid (∀ W,aA wo W->aV W (.slice (some ⟨b,off,none⟩) j c) (xss.take j)):=fun W hW=>aR.take1 (aV.ext HX (aA.trans hE hW)) j hj;have HPL:Hid (∀ x∈xss.take j,x.length=n):=fun x hx=>HN x (List.mem_of_mem_take hx);have vF:-1<=q:=by rw [<- hq];exact c9_ _ _
   have HHB:=np (Z3i (xs:=xss) hlt);have HSU:Hid (ic xss j=true->(List.range (j+1)).all (ic xss)=true):=fun h=>by rw [F5_,HA.out,h];rfl
   have RC:=np rc;clear hr hcell rn sW hp hq hE HX rb rc;go_wp2_with fail;refine (HP _ (aA.alloc _ _)).mono ?_;rintro e w5 ⟨rfl,oX⟩;have HE5:=np oX;have k0:=oX.cell (a:=⟨wo.heap.size,0,none⟩) (by rw [World.cell?_alloc_new];rfl);clear oX HP;have e1:aA wo (w5.alloc (.cells #[.int .i64 p] 3)):=aA.trans (aA.alloc _ _) (aA.trans HE5 (aA.alloc _ _));have HE6:=np e1;have k1:=(aA.alloc w5 (.cells #[.int .i64 p] 3)).cell k0;have k2:(w5.alloc (.cells #[.int .i64 p] 3)).cell? ⟨w5.heap.size,0,none⟩=some (.int .i64 p):=(by rw [World.cell?_alloc_new];rfl);clear e1;by_cases wu:p<=q
   ·have HF:Hid (fW xss=false):=HHB (by rw [HOK.out,oG (by omega)];rfl);go_wp2_with fail;go_ret;rw [HF.out];exact ⟨rfl,aA.trans HE HE6⟩
   ·obtain ⟨k,rfl⟩:∃ k:Nat,p=k:=⟨p.toNat,by omega⟩;have hkl:k<r.length:=(by omega);obtain ⟨y,hy⟩:∃ y,r[k]?=some y:=⟨_,ns hkl⟩;obtain ⟨br,obr,rfl,-,rcell⟩:=RC.out (by intro e;simp [e] at hkl);have k3:=HE6.cell (HE.cell (rcell k y hy));have HGD:Hid (r.getD ((k:Int).toNat) 0=y):=(by unfold Hid;rw [Int.toNat_natCast,nu,hy];rfl);clear rcell;by_cases qH:y<0
    ·have HF:Hid (fW xss=false):=HHB (by rw [HOK.out,HGD.out,oG (show ¬ 0<=y by omega),Bool.and_false];rfl);clear hy;go_wp2_with fail;go_ret;rw [HF.out];exact ⟨rfl,aA.trans HE HE6⟩
    ·have HPR:Hid (m2_ aK 309 #[.pointer (some ⟨w5.heap.size,0,none⟩),.pointer (some ⟨wo.heap.size,0,none⟩)] (gw k r) (w5.alloc (.cells #[.int .i64 k] 3)) (xss.take j)):=by
      intro W x vx hx hW pV;exact l9_ x r k w5.heap.size wo.heap.size vx _ W pV (aK.ext HR (aA.trans HE6 hW)) (hW.cell k2) (hW.cell k1) (by rw [HPL.out x hx,<- HRn.out];exact hkl) hkl
     have HCT:=np (W3_ (R:=aK) (fun _ _ _ _ he h=>aK.ext h he) (xss.take j) _ 309 _ (gw k r) (w5.alloc (.cells #[.int .i64 k] 3)) (HTK _ HE6) (enters_of func309 (by kernel_rfl) rfl) HPR);have HOK2:Hid (ic xss j=!(xss.take j).any (gw k r)):=by
      unfold Hid;rw [HOK.out,HGD.out,oH (show 0<=y by omega),oH (show q<(k:Int) by omega),Int.toNat_natCast];rfl
     obtain ⟨bb,qE⟩:∃ bb:Bool,(xss.take j).any (gw k r)=bb:=⟨_,rfl⟩;rw [qE] at HCT HOK2;clear hy qE HPR;cases bb with
     | true =>
      have HF:Hid (fW xss=false):=HHB (by rw [HOK2.out];rfl);go_wp2_with fail;refine p_ HCT (aA.trans HE6) ?_;intro w7 HE7;clear HCT;go_wp2_with fail;go_ret;rw [HF.out];exact ⟨rfl,aA.trans HE HE7⟩
     | false =>
      have HNX:Hid ((List.range (j+1)).all (ic xss)=true):=HSU (by rw [HOK2.out];rfl);go_wp2_with fail;refine HCT.mono ?_;rintro e w7 ⟨rfl,pK⟩;have HE7:=np (aA.trans HE6 pK);have k4:=pK.cell k2;clear pK HCT;go_wp2_with fail;go_roundw
      case rel=>exact ⟨j+1,by omega,by go_num,by rw [HQ2.out],aA.trans HE HE7,HNX⟩
      case measure=>simp [intOf];omega
  ·have HT:Hid (fW xss=true):=by
    have:j=xss.length:=(by omega);rw [this] at HA;exact HA
   go_wp2_with fail;go_ret;rw [HT.out];exact ⟨rfl,HE⟩
def fP (x:oQ):Nat:=(bt x).toNat
def jw (s x:oQ):Int:=aQ (s.getD (fP x) 0) (x.getD (fP x) 0)
def dx (xss:oP) (r:oQ):Nat->Option (oQ×oQ)
 | 0=>some (r,[])
 | i+1=>match dx xss r i with
  | none=>none
  | some (s,m) =>
   if 0<=bt (aC xss i)/\fP (aC xss i)<s.length/\s.all bX=true/\(aC xss i).all bX=true then
    match eX (jw s (aC xss i)) s (aC xss i) with
    | none=>none
    | some s'=>some (s',m++[jw s (aC xss i)])
   else none
theorem H4_ {xss:oP} {r:oQ} {i:Nat} {y:oQ×oQ} (h:dx xss r (i+1)=some y) :
  ∃ s m,dx xss r i=some (s,m)/\0<=bt (aC xss i)/\fP (aC xss i)<s.length/\s.all bX=true/\(aC xss i).all bX=true/\eX (jw s (aC xss i)) s (aC xss i)=some y.1/\y.2=m++[jw s (aC xss i)]:=by
 unfold dx at h;cases hr:dx xss r i with
 | none=>rw [hr] at h;cases h
 | some p =>
  obtain ⟨s,m⟩:=p;rw [hr] at h;simp only at h;by_cases hc:0<=bt (aC xss i)/\fP (aC xss i)<s.length/\s.all bX=true/\(aC xss i).all bX=true
  ·rw [if_pos hc] at h;cases hl:eX (jw s (aC xss i)) s (aC xss i) with
   | none=>rw [hl] at h;cases h
   | some s' =>
    rw [hl] at h;obtain rfl:=oA h;exact ⟨s,m,rfl,hc.1,hc.2.1,hc.2.2.1,hc.2.2.2,hl,rfl⟩
  ·rw [if_neg hc] at h;cases h
theorem Z2a {xss:oP} {r:oQ} {n:Nat}:∀ {y},dx xss r n=some y->∀ i,i<=n->∃ z,dx xss r i=some z:=by
 induction n with
 | zero =>
  intro y h i hi;obtain rfl:i=0:=by omega
  exact ⟨_,h⟩
 | succ n ih =>
  intro y h i hi;by_cases hn:i=n+1;·subst hn;exact ⟨_,h⟩
  ·obtain ⟨s,m,hs,-⟩:=H4_ h;exact ih hs i (by omega)
theorem L4_ {xss:oP} {r:oQ}:∀ {i:Nat} {s m:oQ},dx xss r i=some (s,m)->s.length=r.length/\m.length=i
 | 0,s,m,h=>by unfold dx at h;simp only [Option.some.injEq,Prod.mk.injEq] at h;obtain ⟨rfl,rfl⟩:=h;exact ⟨rfl,rfl⟩
 | i+1,s,m,h=>by
  obtain ⟨s0,m0,h0,-,-,-,-,hl,hm⟩:=H4_ h;obtain ⟨h1,h2⟩:=L4_ h0;have:=kY hl;simp only at this hm;subst hm;exact ⟨this.trans h1,by simp [h2]⟩
theorem x8_ (x:oQ) (h:0<=bt x):fP x<x.length/\bt x=(fP x:Int)/\x.getD (fP x) 0≠0:=by
 unfold fP;unfold bt at h |-;cases hf:x.findIdx? (· != 0) with
 | none=>rw [hf] at h;simp at h
 | some i =>
  obtain ⟨hi,hp,-⟩:=List.findIdx?_eq_some_iff_getElem.1 hf;refine ⟨by simpa using hi,by simp,?_⟩;simp only [Int.toNat_natCast];rw [nu,ns hi];simpa using hp
theorem Z39 {r:oQ} {p:Nat} (hz:∀ c,c<p->r.getD c 0=0) (hp:r.getD p 0≠0):r.findIdx? (· != 0)=some p:=by
 have hl:p<r.length:=by
  rcases Nat.lt_or_ge p r.length with h | h;·exact h
  ·exact absurd (by rw [nu,n_ h];rfl) hp
 rw [List.findIdx?_eq_some_iff_getElem];refine ⟨hl,?_,fun j hj=>?_⟩
 ·rw [nu,ns hl] at hp;simpa using hp
 ·have:=hz j hj;rw [nu,ns (by omega)] at this;simpa using this
theorem I0_ {n:Nat} {R:oP} {ps:Nat->Nat} (hR:aW n R ps) {i:Nat} (hi:i<R.length):(aC R i).findIdx? (· != 0)=some (ps i) :=
 Z39 (fun c hc=>hR.2.zero i hi c hc) (Int.ne_of_gt (hR.2.pos i hi))
theorem r5_ {n:Nat} {R:oP} {ps:Nat->Nat} (hR:aW n R ps) {i:Nat} (hi:i<R.length):gd (aC R i)=(ps i:Int):=by
 unfold gd f_;rw [I0_ hR hi]
theorem Q0_ {n:Nat} {R:oP} {ps:Nat->Nat} (hR:aW n R ps) {i:Nat} (hi:i<R.length):bt (aC R i)=(ps i:Int):=by
 unfold bt;rw [I0_ hR hi]
theorem D9_ {n:Nat} {R:oP} {ps:Nat->Nat} (hR:aW n R ps):fW R=true:=by
 unfold fW;rw [List.all_eq_true];intro i hi;rw [List.mem_range] at hi;have e:R.getD i []=aC R i:=rfl;have e1:=r5_ hR hi;unfold ic;rw [e,e1];have hb:jD R i<(ps i:Int):=by
  unfold jD
  split
  ·omega
  ·rename_i h0;have e2:gd (R.getD (i-1) [])=(ps (i-1):Int):=r5_ hR (i:=i-1) (by omega);rw [e2];have:=hR.2.mono (i-1) i (by omega) hi;omega
 have hp:0<=(aC R i).getD ((ps i:Int)).toNat 0:=Int.le_of_lt (hR.2.pos i hi);have hn:(R.take i).any (gw ((ps i:Int)).toNat (aC R i))=false:=by
  rw [List.any_eq_false];intro x hx;obtain ⟨j,hj⟩:=List.getElem?_of_mem hx;have hjl:=(nt.1 hj).1;rw [ny] at hjl;have Gx:aC R j=x:=by rw [<- jW (d:=i) (by omega)];exact eP hj
  have hr:=hR.2.red j i (by omega) hi;unfold gw;rw [<- Gx];have h1:¬ (aC R j).getD ((ps i:Int)).toNat 0<0:=Int.not_lt.2 hr.1;have h2:¬ (aC R i).getD ((ps i:Int)).toNat 0<=(aC R j).getD ((ps i:Int)).toNat 0:=Int.not_le.2 hr.2;rw [oG h1,oG h2];simp
 rw [oH hb,oH hp,hn];rfl
theorem kJ {r s:oQ} (hl:r.length=s.length) (h:∀ c,r.getD c 0=s.getD c 0):r=s:=by
 apply List.ext_getElem hl;intro i h1 h2;have e:=h i;rw [nu,nu,ns h1,ns h2] at e;simpa using e
theorem jQ {r s:oQ} (hl:s.length=r.length) (c:Nat):(aM 1 r s).getD c 0=r.getD c 0-s.getD c 0:=by
 rw [du 1 hl,Int.one_mul]
def lG (R:oP) (ps:Nat->Nat) (k:Nat) (s:oQ):Prop:=∀ j,j<k->0<=s.getD (ps j) 0/\s.getD (ps j) 0<aD R j (ps j)
theorem Z4n {n K e a:Nat} {R:oP} {ps:Nat->Nat} (hK:K<=400000000) (hR:aW n R ps) (hB:∀ i,i<R.length->aN (10^e) (aC R i)) {v:oQ} (hv:v.length=n) (Ck:aN (10^a) v) (he:e+1<=K) :
  ∀ i,i<=R.length->a+i*(e+1)+1<=K->∃ s ms,dx R v i=some (s,ms)/\s.length=n/\aN (10^(a+i*(e+1))) s/\Sp n (aG 0 R) (aM 1 v s)/\lG R ps i s
 | 0,_,_=>⟨v,[],rfl,hv,by simpa using Ck,by rw [Q6_,hv];exact .zero,fun j hj=>by omega⟩
 | i+1,hi,hk=>by
  have hA:a+(i+1)*(e+1)=a+i*(e+1)+(e+1):=by rw [Nat.add_mul];omega
  rw [hA] at hk;obtain ⟨s,ms,e1,e2,e3,e4,e5⟩:=Z4n hK hR hB hv Ck he i (by omega) (by omega);obtain ⟨A,GC⟩:=oO (a+i*(e+1));rw [<- GC] at e3 hk hA;have hil:i<R.length:=by omega
  have hlead:=Q0_ hR hil;have Hj:fP (aC R i)=ps i:=by unfold fP;rw [hlead];rfl
  have hpos:=hR.2.pos i hil;have hlt:ps i<n:=hR.2.lt i hil;have pA:=nU A;have pe:=nU e;have I3:10^A<10^K:=n7 (by rw [j3];omega) (ij (show A+1<=K by omega));have IH:10^e<10^K:=n7 (by rw [j3];omega) (ij he);have sL:0<=bt (aC R i)/\fP (aC R i)<s.length/\s.all bX=true/\(aC R i).all bX=true:=by
   refine ⟨by rw [hlead];omega,by rw [Hj,e2];exact hlt,?_,?_⟩;·rw [List.all_eq_true];exact fun x hx=>j5 (by omega) (by omega) (Nat.lt_of_le_of_lt (e3 x hx) I3)
   ·rw [List.all_eq_true];exact fun x hx=>j5 (by omega) (by omega) (Nat.lt_of_le_of_lt (hB i hil x hx) IH)
  obtain ⟨q,hq⟩:=oO (jw s (aC R i));have zr:q=aQ (s.getD (ps i) 0) (aD R i (ps i)):=by rw [hq];unfold jw;rw [Hj];rfl
  have zq:q.natAbs<=10^A+1:=by
   have h1:=mz (s.getD (ps i) 0) (aD R i (ps i));have h2:=e3.getD (ps i);rw [<- zr] at h1;omega
  have GB:10^A+1<10^K:=n7 (show 10^A+1<10^(A+1) by rw [j3];omega) (ij (by omega));have hlen:(aC R i).length=s.length:=by rw [hR.1 i hil,e2]
  have hlo:=x9_ (k:=q) hK (by omega) hlen e3 (hB i hil) I3 IH (Nat.lt_of_le_of_lt zq GB);have qV:∀ c,(aM q s (aC R i)).getD c 0=s.getD c 0-q*aD R i c:=fun c=>du q hlen c;refine ⟨aM q s (aC R i),ms++[q],?_,by rw [dW];exact e2,?_,?_,fun j hj=>?_⟩;·rw [dx,e1];simp only;rw [if_pos sL,<- hq,hlo]
  ·rw [hA];refine (L0_ q _ _ e3 (hB i hil)).mono ?_;have h1:q.natAbs*10^e<=(10^A+1)*10^e:=Nat.mul_le_mul_right _ zq;have h2:10^(A+(e+1))=10*(10^A*10^e):=(by rw [<- Nat.add_assoc,j3,Nat.pow_add]);have h3:(10^A+1)*10^e=10^A*10^e+10^e:=(by rw [Nat.add_mul,Nat.one_mul]);have h4:10^A<=10^A*10^e:=Nat.le_mul_of_pos_right _ (by omega);have h5:10^e<=10^A*10^e:=Nat.le_mul_of_pos_left _ (by omega);rw [h2];omega
  ·have hx:aM 1 v (aM q s (aC R i))=aM (-q) (aM 1 v s) (aC R i):=by
    refine kJ (by simp only [dW]) fun c=>?_;rw [jQ (by rw [dW,e2,hv]),qV,du (-q) (by rw [dW,hlen,e2,hv]),jQ (by rw [e2,hv])];show _=_ - -q*aD R i c;rw [Int.neg_mul];omega
   rw [hx];exact .less _ e4 (.mem (ak (Nat.zero_le _) hil))
  ·rw [qV];by_cases sh:j=i
   ·rw [sh];have h1:=lZ (s.getD (ps i) 0) (aD R i (ps i));have h2:=jn (s.getD (ps i) 0) (aD R i (ps i)) hpos;rw [zr,Int.mul_comm];omega
   ·rw [hR.2.zero i hil (ps j) (hR.2.mono j i (by omega) hil),Int.mul_zero,Int.sub_zero];exact e5 j (by omega)
theorem Z3Q {n:Nat} {R:oP} {ps:Nat->Nat} (hR:aW n R ps) {v w s t:oQ} (hv:v.length=n) (hw:w.length=n) (hs:s.length=n) (ht:t.length=n) (h1:Sp n (aG 0 R) (aM 1 v s)) (h2:Sp n (aG 0 R) (aM 1 w t)) (r1:lG R ps R.length s) (r2:lG R ps R.length t) :
  s=t↔Sp n (aG 0 R) (aM 1 v w):=by
 constructor
 ·rintro rfl;have:=Sp.less 1 h1 h2;rw [<- Q7_ 1 1 1 v w s (by rw [hv,hs]) (by rw [hw,hs])] at this;rw [show (1:Int)-1*1=0 by decide,iE] at this;exact this
 ·intro h;have h3:Sp n (aG 0 R) (aM (-1) (aM 1 (aM 1 v w) (aM 1 v s)) (aM 1 w t)):=.less _ (.less 1 h h1) h2;have hx:aM (-1) (aM 1 (aM 1 v w) (aM 1 v s)) (aM 1 w t)=aM 1 s t:=by
   refine kJ (by simp only [dW];rw [hv,hs]) fun c=>?_;rw [du (-1) (by simp only [dW];rw [hw,hv]),jQ (by simp only [dW]),jQ (by rw [hv,hw]),jQ (by rw [hv,hs]),jQ (by rw [hw,ht]),jQ (by rw [hs,ht])];omega
  rw [hx] at h3;refine U4_ (by rw [hs,ht]) ?_;rw [hs];refine Sp.small hR _ 0 rfl h3 fun j _ hj=>?_;rw [jQ (by rw [hs,ht])];have a1:=r1 j hj;have a2:=r2 j hj;omega
theorem N8_ (n:Nat) {v:oQ} (hv:v.length=n):aM 1 v (List.replicate n 0)=v:=by
 refine kJ (dW _ _ _) fun c=>?_;rw [jQ (by simp [hv])];have:(List.replicate n (0:Int)).getD c 0=0:=(Sp.zero (n:=n) (S:=fun _=>False)).zeroCol (fun _ h=>h.elim) (fun _ h=>h.elim);rw [this];omega
theorem Z3R {n:Nat} {R:oP} {ps:Nat->Nat} (hR:aW n R ps) {v s:oQ} (hv:v.length=n) (hs:s.length=n) (h1:Sp n (aG 0 R) (aM 1 v s)) (r1:lG R ps R.length s) :
  s=List.replicate n 0↔Sp n (aG 0 R) v:=by
 have h2:Sp n (aG 0 R) (aM 1 (List.replicate n 0) (List.replicate n 0)):=.less 1 .zero .zero;have r2:lG R ps R.length (List.replicate n 0):=fun j hj=>by
  have:(List.replicate n (0:Int)).getD (ps j) 0=0:=(Sp.zero (n:=n) (S:=fun _=>False)).zeroCol (fun _ h=>h.elim) (fun _ h=>h.elim);rw [this];exact ⟨Int.le_refl _,hR.2.pos j hj⟩
 rw [Z3Q hR hv (by simp) hs (by simp) h1 h2 r1 r2,N8_ n hv]
def sk (i a:Nat):Nat:=if a<i then a else a+1
def aI:Nat->(Nat->Rat)->Rat
 | 0,_=>0
 | n+1,f=>aI n f+f n
def dO (i:Nat):Rat:=if i%2=0 then 1 else -1
def aL:Nat->(Nat->Nat->Rat)->Rat
 | 0,_=>1
 | n+1,M=>aI (n+1) fun i=>dO i*M i 0*aL n fun a b=>M (sk i a) (b+1)
theorem cd {n:Nat} {f g:Nat->Rat} (h:∀ i,i<n->f i=g i):aI n f=aI n g:=by
 induction n with
 | zero=>rfl
 | succ n ih=>show aI n f+f n=aI n g+g n;rw [ih (fun i hi=>h i (by omega)),h n (by omega)]
theorem S8_ (n:Nat):aI n (fun _=>0)=0:=by
 induction n with
 | zero=>rfl
 | succ n ih=>show aI n _+0=0;rw [ih];grind
theorem ng (n:Nat) (f g:Nat->Rat):aI n (fun i=>f i+g i)=aI n f+aI n g:=by
 induction n with
 | zero=>show (0:Rat)=0+0;grind
 | succ n ih=>show aI n _+(f n+g n)=(aI n f+f n)+(aI n g+g n);rw [ih];grind
theorem iL (n:Nat) (c:Rat) (f:Nat->Rat):aI n (fun i=>c*f i)=c*aI n f:=by
 induction n with
 | zero=>show (0:Rat)=c*0;grind
 | succ n ih=>show aI n _+c*f n=c*(aI n f+f n);rw [ih];grind
theorem Z42 (n:Nat) (f:Nat->Rat):aI n (fun i=>- f i)=- aI n f:=by
 have:=iL n (-1) f;rw [show (-1:Rat)*aI n f=- aI n f by grind] at this;rw [<- this];exact cd fun i _=>by grind
theorem Z2w (n m:Nat) (f:Nat->Nat->Rat):aI n (fun i=>aI m (fun j=>f i j))=aI m (fun j=>aI n (fun i=>f i j)):=by
 induction n with
 | zero=>show (0:Rat)=aI m (fun _=>0);rw [S8_]
 | succ n ih =>
  show aI n _+aI m (fun j=>f n j)=aI m (fun j=>aI n (fun i=>f i j)+f n j);rw [ih,ng]
theorem n3_ (n:Nat) (f:Nat->Rat):aI (n+1) f=f 0+aI n (fun i=>f (i+1)):=by
 induction n with
 | zero=>show (0:Rat)+f 0=f 0+0;grind
 | succ n ih =>
  show aI (n+1) f+f (n+1)=f 0+(aI n (fun i=>f (i+1))+f (n+1));rw [ih];grind
theorem nh {n k:Nat} {f:Nat->Rat} (hk:k<n) (h:∀ i,i<n->i≠k->f i=0):aI n f=f k:=by
 induction n with
 | zero=>omega
 | succ n ih =>
  show aI n f+f n=f k;by_cases e:k=n
  ·subst e;have:aI k f=aI k (fun _=>0):=cd fun i hi=>h i (by omega) (by omega);rw [this,S8_];grind
  ·rw [ih (by omega) (fun i hi hn=>h i (by omega) hn),h n (by omega) (by omega)];grind
def az (r i:Nat):Nat:=if i=r then r+1 else if i=r+1 then r else i
theorem Z5g {n r:Nat} (hr:r+1<n) (f:Nat->Rat):aI n (fun i=>f (az r i))=aI n f:=by
 induction n with
 | zero=>omega
 | succ n ih =>
  show aI n _+f (az r n)=aI n f+f n;by_cases e:r+1=n
  ·subst e;show (aI r _+f (az r r))+f (az r (r+1))=(aI r f+f r)+f (r+1);have h1:aI r (fun i=>f (az r i))=aI r f:=cd fun i hi=>by unfold az;rw [if_neg (by omega),if_neg (by omega)]
   have h2:az r r=r+1:=(by unfold az;rw [if_pos rfl]);have h3:az r (r+1)=r:=(by unfold az;rw [if_neg (by omega),if_pos rfl]);rw [h1,h2,h3];grind
  ·have h1:az r n=n:=(by unfold az;rw [if_neg (by omega),if_neg (by omega)]);rw [ih (by omega),h1]
theorem S7_ (i:Nat):dO (i+1)=- dO i:=by
 unfold dO;by_cases h:i%2=0;·rw [if_pos h,if_neg (by omega)]
 ·rw [if_neg h,if_pos (by omega)];grind
theorem cQ {n:Nat} {M N:Nat->Nat->Rat} (h:∀ a b,a<n->b<n->M a b=N a b):aL n M=aL n N:=by
 induction n generalizing M N with
 | zero=>rfl
 | succ n ih =>
  show aI (n+1) _=aI (n+1) _;refine cd fun i hi=>?_;rw [h i 0 hi (by omega),ih (M:=fun a b=>M (sk i a) (b+1)) (N:=fun a b=>N (sk i a) (b+1)) (fun a b ha hb=>h _ _ (by unfold sk;split <;> omega) (by omega))]
def b_ (M:Nat->Nat->Rat) (r:Nat) (u:Nat->Rat):Nat->Nat->Rat:=fun a b=>if a=r then u b else M a b
theorem m0_ (M:Nat->Nat->Rat) (r:Nat):b_ M r (M r)=M:=by
 funext a b;unfold b_;split;·rename_i h;rw [h]
 ·rfl
theorem m1_ (M:Nat->Nat->Rat) (r:Nat) (u:Nat->Rat):(fun a b=>b_ M r u (sk r a) (b+1))=fun a b=>M (sk r a) (b+1):=by
 funext a b;unfold b_ sk;rw [if_neg (by split <;> omega)]
theorem h2_ {M:Nat->Nat->Rat} {r i:Nat} (u:Nat->Rat) (h:i≠r):(fun a b=>b_ M r u (sk i a) (b+1))=b_ (fun a b=>M (sk i a) (b+1)) (if r<i then r else r-1) (fun b=>u (b+1)):=by
 funext a b;unfold b_ sk;show (if (if a<i then a else a+1)=r then u (b+1) else M (if a<i then a else a+1) (b+1))=if a=(if r<i then r else r-1) then u (b+1) else M (if a<i then a else a+1) (b+1)
 have:((if a<i then a else a+1)=r)=(a=(if r<i then r else r-1)):=by
  apply propext;by_cases h1:r<i <;> by_cases h2:a<i <;> simp only [h1,h2,if_true,if_false] <;> omega
 simp only [this]
theorem mr {n:Nat} (M:Nat->Nat->Rat) {r:Nat} (hr:r<n) (u v:Nat->Rat) (c:Rat) :
  aL n (b_ M r fun b=>u b+c*v b)=aL n (b_ M r u)+c*aL n (b_ M r v):=by
 induction n generalizing M r u v with
 | zero=>omega
 | succ n ih =>
  show aI (n+1) _=aI (n+1) _+c*aI (n+1) _;rw [<- iL,<- ng];refine cd fun i hi=>?_;by_cases e:i=r
  ·subst e;simp only [m1_];have h:∀ u,b_ M i u i 0=u 0:=fun u=>by unfold b_;rw [if_pos rfl]
   rw [h,h,h];grind
  ·have h:∀ u,b_ M r u i 0=M i 0:=fun u=>by unfold b_;rw [if_neg e]
   rw [h,h,h,h2_ _ e,h2_ _ e,h2_ _ e,ih _ (by split <;> omega)];grind
theorem mn {n:Nat} (M:Nat->Nat->Rat) {r:Nat} (hr:r+1<n):aL n (fun a b=>M (az r a) b)=- aL n M:=by
 induction n generalizing M r with
 | zero=>omega
 | succ n ih =>
  show aI (n+1) _=- aI (n+1) _;rw [<- Z5g hr,<- Z42];refine cd fun i hi=>?_;have qX:az r (az r i)=i:=by unfold az;repeat' split <;> try omega
  show dO (az r i)*M (az r (az r i)) 0*aL n (fun a b=>M (az r (sk (az r i) a)) (b+1))=-(dO i*M i 0*aL n fun a b=>M (sk i a) (b+1));rw [qX];by_cases e1:i=r
  ·subst e1;have h1:az i i=i+1:=(by unfold az;rw [if_pos rfl]);rw [h1,S7_];have:(fun a b=>M (az i (sk (i+1) a)) (b+1))=fun a b=>M (sk i a) (b+1):=by
    funext a b;congr 1;unfold az sk;repeat' split <;> try omega
   rw [this];grind
  ·by_cases e2:i=r+1
   ·subst e2;have h1:az r (r+1)=r:=(by unfold az;rw [if_neg (by omega),if_pos rfl]);rw [h1,S7_];have:(fun a b=>M (az r (sk r a)) (b+1))=fun a b=>M (sk (r+1) a) (b+1):=by
     funext a b;congr 1;unfold az sk;repeat' split <;> try omega
    rw [this];grind
   ·have h1:az r i=i:=(by unfold az;rw [if_neg e1,if_neg e2]);rw [h1];have:(fun a b=>M (az r (sk i a)) (b+1))=fun a b=>(fun a b=>M (sk i a) (b+1)) (az (if r<i then r else r-1) a) b:=by
     funext a b;congr 1;unfold az sk;repeat' split <;> try omega
    rw [this];have e:=ih (fun a b=>M (sk i a) (b+1)) (r:=if r<i then r else r-1) (by split <;> omega);rw [e];grind
def bD (i j a:Nat):Nat:=if a=i then j else if a=j then i else a
theorem K9_ {n:Nat} (M:Nat->Nat->Rat) {i j:Nat} (pO:i<j) (hj:j<n):aL n (fun a b=>M (bD i j a) b)=- aL n M:=by
 obtain ⟨d,rfl⟩:∃ d,j=i+1+d:=⟨j-i-1,by omega⟩;clear pO
 induction d generalizing M with
 | zero =>
  have:(fun a b=>M (bD i (i+1+0) a) b)=fun a b=>M (az i a) b:=by
   funext a b;congr 1
  rw [this];exact mn M hj
 | succ d ih =>
  have:(fun a b=>M (bD i (i+1+(d+1)) a) b)=fun a b=>(fun a b=>(fun a b=>M (az (i+1+d) a) b) (bD i (i+1+d) a) b) (az (i+1+d) a) b:=by
   funext a b;congr 1;unfold bD az;repeat' split <;> try omega
  rw [this];have e1:=mn (n:=n) (fun a b=>(fun a b=>M (az (i+1+d) a) b) (bD i (i+1+d) a) b) (r:=i+1+d) (by omega);have e2:=ih (fun a b=>M (az (i+1+d) a) b) (by omega);have e3:=mn (n:=n) M (r:=i+1+d) (by omega);rw [e1,e2,e3];grind
theorem o0_ {x:Rat} (h:x=-x):x=0:=by
 have:x+x=0:=by rw [show x+x=x-(-x) by grind,<- h];grind
 have:2*x=0:=by grind
 grind
theorem y8_ {n:Nat} {M:Nat->Nat->Rat} {i j:Nat} (hi:i<n) (hj:j<n) (hne:i≠j) (h:∀ b,b<n->M i b=M j b):aL n M=0:=by
 have key:∀ i j,i<j->j<n->(∀ b,b<n->M i b=M j b)->aL n M=0:=by
  intro i j pO hj h;have h1:=K9_ M pO hj;have h2:aL n (fun a b=>M (bD i j a) b)=aL n M:=cQ fun a b ha hb=>by
   unfold bD
   split
   ·rename_i e;rw [e,h b hb]
   ·split
    ·rename_i e;rw [e,h b hb]
    ·rfl
  rw [h2] at h1;exact o0_ h1
 rcases Nat.lt_or_gt_of_ne hne with e | e;·exact key i j e hj h
 ·exact key j i e hi (fun b hb=>(h b hb).symm)
theorem h_ {n:Nat} {M:Nat->Nat->Rat} {r:Nat} (hr:r<n) (h:∀ b,b<n->M r b=0):aL n M=0:=by
 have h1:=mr M hr (fun _=>0) (fun _=>0) (-1);have h2:aL n (b_ M r fun _=>0)=aL n M:=cQ fun a b ha hb=>by
  unfold b_;split;·rename_i e;rw [e,h b hb]
  ·rfl
 rw [show (fun b:Nat=>(0:Rat)+-1*0)=fun _=>0 by funext b;grind,h2] at h1;grind
theorem b7_ {n:Nat} (M:Nat->Nat->Rat) {r:Nat} (hr:r<n) (c:Rat):aL n (b_ M r fun b=>c*M r b)=c*aL n M:=by
 have h1:=mr M hr (fun _=>0) (M r) c;rw [m0_,h_ (M:=b_ M r fun _=>0) hr (fun b _=>by unfold b_;rw [if_pos rfl])] at h1;rw [show (fun b=>c*M r b)=fun b=>(0:Rat)+c*M r b by funext b;grind,h1];grind
theorem l3_ {n:Nat} (M:Nat->Nat->Rat) {r s:Nat} (hr:r<n) (hs:s<n) (hne:r≠s) (c:Rat):aL n (b_ M r fun b=>M r b+c*M s b)=aL n M:=by
 rw [mr M hr (M r) (M s) c,m0_,y8_ (M:=b_ M r (M s)) hr hs hne (fun b _=>by unfold b_;rw [if_pos rfl,if_neg (by omega)])];grind
def lU:Nat->(Nat->Nat->Rat)->Rat
 | 0,_=>1
 | n+1,M=>aI (n+1) fun j=>dO j*M 0 j*lU n fun a b=>M (a+1) (sk j b)
theorem Z4G (n:Nat) (M:Nat->Nat->Rat):lU n M=aL n fun a b=>M b a:=by
 induction n generalizing M with
 | zero=>rfl
 | succ n ih =>
  show aI (n+1) _=aI (n+1) _;refine cd fun i hi=>?_;rw [ih]
theorem N2_ (i:Nat):sk (i+1) 0=0:=by unfold sk;rw [if_pos (by omega)]
theorem Z2k (i a:Nat):sk (i+1) (a+1)=sk i a+1:=by
 unfold sk;by_cases h:a<i;·rw [if_pos h,if_pos (by omega)]
 ·rw [if_neg h,if_neg (by omega)]
theorem lT:∀ (n:Nat) (M:Nat->Nat->Rat),aL n M=lU n M/\aL (n+1) M=lU (n+1) M
 | 0,M=>⟨rfl,rfl⟩
 | n+1,M=>by
  refine ⟨(lT n M).2,?_⟩;have h1:aL (n+2) M=dO 0*M 0 0*aL (n+1) (fun a b=>M (a+1) (b+1))+aI (n+1) fun i=>aI (n+1) fun j=>dO (i+1)*M (i+1) 0*(dO j*M 0 (j+1)*aL n (fun a b=>M (sk i a+1) (sk j b+1))):=by
   show aI (n+2) _=_;rw [n3_];congr 1;refine cd fun i hi=>?_;rw [iL];congr 1;rw [(lT n _).2];show aI (n+1) _=aI (n+1) _;refine cd fun j hj=>?_;rw [<- (lT n _).1];simp only [Z2k,N2_]
  have h2:lU (n+2) M=dO 0*M 0 0*lU (n+1) (fun a b=>M (a+1) (b+1))+aI (n+1) fun j=>aI (n+1) fun i=>dO (j+1)*M 0 (j+1)*(dO i*M (i+1) 0*aL n (fun a b=>M (sk i a+1) (sk j b+1))):=by
   show aI (n+2) _=_;rw [n3_];congr 1;refine cd fun j hj=>?_;rw [iL];congr 1;rw [<- (lT n _).2];show aI (n+1) _=aI (n+1) _;refine cd fun i hi=>?_;simp only [Z2k,N2_]
  rw [h1,h2,<- (lT n _).2];congr 1;rw [Z2w];refine cd fun j hj=>cd fun i hi=>?_;rw [S7_,S7_];grind
theorem eU (n:Nat) (M:Nat->Nat->Rat):aL n (fun a b=>M b a)=aL n M:=by
 rw [<- Z4G,(lT n M).1]
theorem K8_ {n:Nat} {M:Nat->Nat->Rat} (h:∀ a,a<n->M a n=0):aL (n+1) M=M n n*aL n M:=by
 induction n generalizing M with
 | zero=>show (0:Rat)+dO 0*M 0 0*1=M 0 0*1;unfold dO;rw [if_pos rfl];grind
 | succ n ih =>
  show aI (n+1) _+dO (n+1)*M (n+1) 0*aL (n+1) (fun a b=>M (sk (n+1) a) (b+1))=M (n+1) (n+1)*aI (n+1) _;have h0:aL (n+1) (fun a b=>M (sk (n+1) a) (b+1))=0:=by
   rw [<- eU];refine h_ (r:=n) (by omega) fun b hb=>?_;show M (sk (n+1) b) (n+1)=0;exact h _ (by unfold sk;rw [if_pos hb];exact hb)
  rw [h0,<- iL];rw [show ∀ x y:Rat,x+y*0=x by intros;grind];refine cd fun i hi=>?_;rw [ih (M:=fun a b=>M (sk i a) (b+1)) (fun a ha=>h _ (by unfold sk;split <;> omega))];have:sk i n=n+1:=by unfold sk;rw [if_neg (by omega)]
  simp only [this];grind
theorem M4_ (n:Nat):aL n (fun a b=>if a=b then 1 else 0)=1:=by
 induction n with
 | zero=>rfl
 | succ n ih =>
  rw [K8_ (fun a ha=>if_neg (by omega)),ih];simp
theorem Z2Y {n:Nat} (M:Nat->Nat->Rat) {r:Nat} (hr:r<n) (u v:Nat->Rat) (c:Rat) :
  aL n (fun a b=>if b=r then u a+c*v a else M a b)=aL n (fun a b=>if b=r then u a else M a b)+c*aL n (fun a b=>if b=r then v a else M a b):=by
 have h:=mr (fun a b=>M b a) hr u v c;rw [<- eU,<- eU n (fun a b=>if b=r then u a else M a b),<- eU n (fun a b=>if b=r then v a else M a b)];exact h
theorem lR {n:Nat} {M:Nat->Nat->Rat} {i j:Nat} (hi:i<n) (hj:j<n) (hne:i≠j) (h:∀ b,b<n->M b i=M b j):aL n M=0:=by
 rw [<- eU];exact y8_ hi hj hne h
theorem mq {n:Nat} (M:Nat->Nat->Rat) {r:Nat} (hr:r<n) (u:Nat->Rat) (m:Nat) (f:Nat->Rat) (v:Nat->Nat->Rat) :
  aL n (fun a b=>if b=r then u a+aI m (fun l=>f l*v l a) else M a b)=aL n (fun a b=>if b=r then u a else M a b)+aI m (fun l=>f l*aL n (fun a b=>if b=r then v l a else M a b)):=by
 induction m with
 | zero =>
  show aL n (fun a b=>if b=r then u a+0 else M a b)=_+(0:Rat);rw [show (fun a b=>if b=r then u a+0 else M a b)=fun a b=>if b=r then u a else M a b by funext a b;split <;> grind];grind
 | succ m ih =>
  show aL n (fun a b=>if b=r then u a+(aI m (fun l=>f l*v l a)+f m*v m a) else M a b)=_+(aI m _+f m*_);rw [show (fun a b=>if b=r then u a+(aI m (fun l=>f l*v l a)+f m*v m a) else M a b)=fun a b=>if b=r then (u a+aI m (fun l=>f l*v l a))+f m*v m a else M a b by funext a b;split <;> grind];rw [Z2Y M hr (fun a=>u a+aI m (fun l=>f l*v l a)) (v m) (f m),ih];grind
def fH (V:Nat->List Int) (r:Nat) (x:oQ):Nat->List Int:=fun a=>if a=r then x else V a
theorem Z2H (V:Nat->List Int) (r:Nat):fH V r (V r)=V:=by
 funext a;unfold fH;split;·rename_i h;rw [h]
 ·rfl
structure jZ (n k:Nat) (G:(Nat->List Int)->Rat):Prop where
 lin:∀ V r x y (q:Int),r<k->x.length=y.length->G (fH V r (aM q x y))=G (fH V r x)+(-(q:Rat))*G (fH V r y)
 zero:∀ V r,r<k->G (fH V r (List.replicate n 0))=0
 eq:∀ V i j,i<k->j<k->i≠j->V i=V j->G V=0
 swap:∀ V i j,i<j->j<k->G (fun a=>V (bD i j a))=- G V
 ext:∀ V W,(∀ a,a<k->V a=W a)->G V=G W
def bT (S:Nat->Nat) (V:Nat->List Int):Nat->Nat->Rat:=fun a b=>(((V a).getD (S b) 0:Int):Rat)
def af (k:Nat) (S:Nat->Nat) (V:Nat->List Int):Rat:=aL k (bT S V)
theorem w4_ (S:Nat->Nat) (V:Nat->List Int) (r:Nat) (x:oQ):bT S (fH V r x)=b_ (bT S V) r fun b=>((x.getD (S b) 0:Int):Rat):=by
 funext a b;unfold bT fH b_;split <;> rfl
theorem ie (n k:Nat) (S:Nat->Nat):jZ n k (af k S) where
 lin V r x y q hr hl:=by
  unfold af;rw [w4_,w4_,w4_,<- mr _ hr];congr 1;funext a b;unfold b_;split
  ·simp only;rw [du q hl.symm];rw [Rat.intCast_sub,Rat.intCast_mul];grind
  ·rfl
 zero V r hr:=by
  unfold af;refine h_ hr fun b _=>?_;rw [w4_];unfold b_;rw [if_pos rfl];simp only;have:(List.replicate n (0:Int)).getD (S b) 0=0:=(Sp.zero (n:=n) (S:=fun _=>False)).zeroCol (fun _ h=>h.elim) (fun _ h=>h.elim);rw [this];rfl
 eq V i j hi hj hne h:=by
  unfold af;exact y8_ hi hj hne fun b _=>by unfold bT;rw [h]
 swap V i j pO hj:=K9_ (bT S V) pO hj
 ext V W h:=cQ fun a b ha _=>by unfold bT;rw [h a ha]
theorem Z2X {n k:Nat} {G H:(Nat->List Int)->Rat} (hG:jZ n k G) (hH:jZ n k H) (c d:Rat):jZ n k (fun V=>c*G V-d*H V) where
 lin V r x y q hr hl:=by rw [hG.lin V r x y q hr hl,hH.lin V r x y q hr hl];grind
 zero V r hr:=by rw [hG.zero V r hr,hH.zero V r hr];grind
 eq V i j hi hj hne h:=by rw [hG.eq V i j hi hj hne h,hH.eq V i j hi hj hne h];grind
 swap V i j pO hj:=by rw [hG.swap V i j pO hj,hH.swap V i j pO hj];grind
 ext V W h:=by rw [hG.ext V W h,hH.ext V W h]
structure gO (Q:Rat->Prop):Prop where
 zero:Q 0
 add:∀ x y (q:Int),Q x->Q y->Q (x+(-(q:Rat))*y)
theorem gO.neg {Q:Rat->Prop} (h:gO Q) {x:Rat} (hx:Q x):Q (-x):=by
 have:=h.add 0 x 1 h.zero hx;have e:(0:Rat)+-((1:Int):Rat)*x=-x:=by grind
 rw [e] at this;exact this
theorem Z4z {n k:Nat} {G:(Nat->List Int)->Rat} {Q:Rat->Prop} (hG:jZ n k G) (hQ:gO Q) {T:oQ->Prop} (hT:j_ n T) (V:Nat->List Int) {r:Nat} (hr:r<k) (h:∀ x,T x->Q (G (fH V r x))) {v:oQ} (hv:Sp n T v):Q (G (fH V r v)):=by
 induction hv with
 | zero=>rw [hG.zero V r hr];exact hQ.zero
 | mem hx=>exact h _ hx
 | less q a b iha ihb=>rw [hG.lin V r _ _ q hr (by rw [a.len hT,b.len hT])];exact hQ.add _ _ q iha ihb
theorem z7_ {n k:Nat} {G:(Nat->List Int)->Rat} {Q:Rat->Prop} (hG:jZ n k G) (hQ:gO Q) {T:oQ->Prop} (hT:j_ n T) (h:∀ V,(∀ a,a<k->T (V a))->Q (G V)) :
  ∀ j,j<=k->∀ V,(∀ a,a<j->Sp n T (V a))->(∀ a,j<=a->a<k->T (V a))->Q (G V)
 | 0,_,V,_,h2=>h V fun a ha=>h2 a (Nat.zero_le _) ha
 | j+1,hj,V,h1,h2=>by
  rw [<- Z2H V j];refine Z4z hG hQ hT V (by omega) (fun x hx=>?_) (h1 j (by omega));refine z7_ hG hQ hT h j (by omega) (fH V j x) (fun a ha=>?_) fun a ha vI=>?_;·unfold fH;rw [if_neg (by omega)];exact h1 a (by omega)
  ·unfold fH;split;·exact hx
   ·exact h2 a (by omega) vI
theorem Z20:∀ (k:Nat) (f:Nat->Nat),(∀ a,a<=k->f a<k)->∃ a b,a<b/\b<=k/\f a=f b
 | 0,f,h=>by have:=h 0 (n9 _);omega
 | k+1,f,h=>by
  by_cases hex:∃ a,a<=k/\f a=f (k+1)
  ·obtain ⟨a,h1,h2⟩:=hex;exact ⟨a,k+1,by omega,n9 _,h2⟩
  ·have hne:∀ a,a<=k->f a≠f (k+1):=fun a ha he=>hex ⟨a,ha,he⟩;have hv:=h (k+1) (n9 _)
   obtain ⟨a,b,h1,h2,h3⟩:=Z20 k (fun a=>if f a=k then f (k+1) else f a) (fun a ha=>by
    have h1:=h a (by omega);have h2:=hne a ha
    split <;> omega)
   refine ⟨a,b,h1,by omega,?_⟩;have ha:=hne a (by omega);have hb:=hne b h2
   split at h3 <;> split at h3 <;> omega
theorem z8_ {n k:Nat} {G:(Nat->List Int)->Rat} {Q:Rat->Prop} (hG:jZ n k G) (hQ:gO Q) (R:Nat->List Int) (h:Q (G R)) :
  ∀ (j r:Nat),k-r=j->r<=k->∀ f:Nat->Nat,(∀ a,a<k->f a<k)->(∀ a,a<r->f a=a)->Q (G fun a=>R (f a))
 | 0,r,hj,hr,f,h1,h2=>by
  rw [hG.ext _ R fun a ha=>by rw [h2 a (by omega)]];exact h
 | j+1,r,hj,hr,f,h1,h2=>by
  by_cases hex:∃ a,r<=a/\a<k/\f a=r
  ·obtain ⟨a,a1,a2,a3⟩:=hex;by_cases AF:a=r
   ·exact z8_ hG hQ R h j (r+1) (by omega) (by omega) f h1 fun b hb=>by
     by_cases qu:b=r;·rw [qu,<- AF,a3,AF]
     ·exact h2 b (by omega)
   ·have:=z8_ hG hQ R h j (r+1) (by omega) (by omega) (fun b=>f (bD r a b)) (fun b hb=>h1 _ (by unfold bD;split;omega;split <;> omega)) fun b hb=>by
     unfold bD;by_cases qu:b=r;·rw [if_pos qu,a3,qu]
     ·rw [if_neg qu,if_neg (by omega)];exact h2 b (by omega)
    have e:=hG.swap (fun b=>R (f b)) r a (by omega) a2;have e2:(fun b=>R (f (bD r a b)))=fun b=>(fun b=>R (f b)) (bD r a b):=rfl;rw [e2,e] at this;have:=hQ.neg this;rw [Rat.neg_neg] at this;exact this
  ·
   obtain ⟨k',rfl⟩:∃ k',k=k'+1:=⟨k-1,by omega⟩;have hne:∀ a,a<=k'->f a≠r:=fun a ha he=>by
    by_cases AF:a<r;·rw [h2 a AF] at he;omega
    ·exact hex ⟨a,by omega,by omega,he⟩
   obtain ⟨a,b,q1,q2,q3⟩:=Z20 k' (fun a=>if f a=k' then r else f a) (fun a ha=>by
    have g1:=h1 a (by omega);have g2:=hne a ha
    split <;> omega)
   have ha:=hne a (by omega);have hb:=hne b q2;have pU:f a=f b:=by
    split at q3 <;> split at q3 <;> omega
   rw [hG.eq (fun a=>R (f a)) a b (by omega) (by omega) (by omega) (by rw [pU])];exact hQ.zero
theorem lL {n:Nat} {G:(Nat->List Int)->Rat} {Q:Rat->Prop} {R:oP} (hG:jZ n R.length G) (hQ:gO Q) (hW:ae n R) (h:Q (G (aC R))) (V:Nat->List Int) (hV:∀ a,a<R.length->Sp n (aG 0 R) (V a)):Q (G V):=by
 refine z7_ hG hQ (cR hW) (fun V hV=>?_) R.length (n9 _) V hV fun a h1 h2=>by omega
 have hf:∃ f:Nat->Nat,∀ a,a<R.length->f a<R.length/\aC R (f a)=V a:=by
  refine ⟨fun a=>if h:a<R.length then Classical.choose (hV a h) else 0,fun a ha=>?_⟩;simp only [dif_pos ha];exact (Classical.choose_spec (hV a ha)).2
 obtain ⟨f,hf⟩:=hf;rw [hG.ext V (fun a=>aC R (f a)) fun a ha=>(hf a ha).2.symm];exact z8_ hG hQ (aC R) h _ 0 rfl (Nat.zero_le _) f (fun a ha=>(hf a ha).1) fun a ha=>by omega
def eV (N:Nat):Nat->Nat
 | 0=>1
 | k+1=>(k+1)*(N*eV N k)
theorem u1_ {B:Nat} {f:Nat->Rat}:∀ {n:Nat},(∀ i,i<n->∃ z:Int,f i=(z:Rat)/\z.natAbs<=B)->∃ z:Int,aI n f=(z:Rat)/\z.natAbs<=n*B
 | 0,_=>⟨0,rfl,by omega⟩
 | n+1,h=>by
  obtain ⟨z,h1,h2⟩:=u1_ fun i (hi:i<n)=>h i (by omega);obtain ⟨y,h3,h4⟩:=h n (by omega);refine ⟨z+y,?_,?_⟩
  ·show aI n f+f n=_;rw [h1,h3,Rat.intCast_add]
  ·rw [Nat.add_mul];omega
theorem Z0X {N:Nat}:∀ (k:Nat) (m:Nat->Nat->Int),(∀ a b,a<k->b<k->(m a b).natAbs<=N)->∃ z:Int,aL k (fun a b=>(m a b:Rat))=(z:Rat)/\z.natAbs<=eV N k
 | 0,m,h=>⟨1,rfl,by unfold eV;decide⟩
 | k+1,m,h=>by
  unfold eV;refine u1_ (B:=N*eV N k) fun i hi=>?_;obtain ⟨z,h1,h2⟩:=Z0X k (fun a b=>m (sk i a) (b+1)) fun a b ha hb=>h _ _ (by unfold sk;split <;> omega) (by omega);have hb:(m i 0*z).natAbs<=N*eV N k:=by rw [Int.natAbs_mul];exact Nat.mul_le_mul (h i 0 hi (by omega)) h2
  simp only;rw [h1];unfold dO
  split
  ·exact ⟨m i 0*z,by rw [Rat.intCast_mul];grind,hb⟩
  ·exact ⟨-(m i 0*z),by rw [Rat.intCast_neg,Rat.intCast_mul];grind,by rw [Int.natAbs_neg];exact hb⟩
def dN (R:oP) (ps:Nat->Nat):Nat->Int
 | 0=>1
 | j+1=>aD R j (ps j)*dN R ps j
theorem il {n:Nat} {R:oP} {ps:Nat->Nat} (hR:aW n R ps):∀ j,j<=R.length->0<dN R ps j/\∀ i,i<j->aD R i (ps i)<=dN R ps j
 | 0,_=>⟨by unfold dN;decide,fun i hi=>by omega⟩
 | j+1,hj=>by
  obtain ⟨h1,h2⟩:=il hR j (by omega);have hp:=hR.2.pos j (by omega);have e:dN R ps (j+1)=aD R j (ps j)*dN R ps j:=rfl;have a1:1*dN R ps j<=aD R j (ps j)*dN R ps j:=Int.mul_le_mul_of_nonneg_right (by omega) (by omega);have a2:aD R j (ps j)*1<=aD R j (ps j)*dN R ps j:=Int.mul_le_mul_of_nonneg_left (by omega) (by omega);rw [e];refine ⟨by omega,fun i hi=>?_⟩;by_cases pO:i=j;·rw [pO];omega
  ·have:=h2 i (by omega);omega
theorem ig {n:Nat} {R:oP} {ps:Nat->Nat} (hR:aW n R ps):∀ j,j<=R.length->af j ps (aC R)=(dN R ps j:Rat)
 | 0,_=>rfl
 | j+1,hj=>by
  have ih:=ig hR j (by omega);unfold af at ih |-;rw [<- eU,K8_,eU,ih]
  ·show _=((aD R j (ps j)*dN R ps j:Int):Rat);rw [Rat.intCast_mul];rfl
  ·intro a ha;show (((aC R j).getD (ps a) 0:Int):Rat)=0;have:(aC R j).getD (ps a) 0=0:=hR.2.zero j (by omega) (ps a) (hR.2.mono a j ha (by omega));rw [this];rfl
theorem ma {k:Nat} (M:Nat->Nat->Rat) (hz:∀ a b,b<a->a<k->M a b=0) (hd:∀ a,a<k->M a a≠0) (y:Nat->Rat):∀ j,j<=k->∃ x:Nat->Rat,∀ a,k-j<=a->a<k->y a=aI k fun l=>x l*M a l
 | 0,_=>⟨fun _=>0,fun a h1 h2=>by omega⟩
 | j+1,hj=>by
  obtain ⟨x,hx⟩:=ma M hz hd y j (by omega);obtain ⟨r,hr⟩:=oO (k-(j+1));obtain ⟨q,hq⟩:∃ q,q=(y r-aI k fun l=>if l=r then 0 else x l*M r l) / M r r:=⟨_,rfl⟩;refine ⟨fun l=>if l=r then q else x l,fun a h1 h2=>?_⟩;by_cases AF:a=r
  ·rw [AF];have hf:(aI k fun l=>(if l=r then q else x l)*M r l)=aI k fun l=>(if l=r then 0 else x l*M r l)+if l=r then q*M r r else 0:=by
    refine cd fun l _=>?_;by_cases hl:l=r;·rw [if_pos hl,if_pos hl,if_pos hl,hl];grind
    ·rw [if_neg hl,if_neg hl,if_neg hl];grind
   rw [hf,ng,nh (k:=r) (by omega) (fun i _ hi=>if_neg hi),if_pos rfl,hq];have:=hd r (by omega);rw [Rat.div_mul_cancel this];grind
  ·rw [hx a (by omega) h2];refine cd fun l _=>?_;show x l*M a l=(if l=r then q else x l)*M a l;by_cases hl:l=r;·rw [if_pos hl,hl,hz a r (by omega) h2];grind
   ·rw [if_neg hl]
theorem mg:gO fun x=>x=0:=⟨rfl,fun x y q h h'=>by rw [h,h'];grind⟩
theorem Z0O (d:Rat):gO fun x=>∃ t:Int,x=(t:Rat)*d:=⟨⟨0,by grind⟩,fun x y q ⟨t,h⟩ ⟨u,h'⟩=>⟨t-q*u,by rw [h,h',Rat.intCast_sub,Rat.intCast_mul];grind⟩⟩
theorem Z0p {n:Nat} {m R:oP} {ps:Nat->Nat} (hR:aW n R ps) (hw:ae n m) (hs:bP n (aG 0 m) (aG 0 R)):∃ V:Nat->List Int,(∀ a,a<R.length->aG 0 m (V a))/\af R.length ps V≠0:=by
 refine Classical.byContradiction fun tb=>?_;have hall:∀ V:Nat->List Int,(∀ a,a<R.length->aG 0 m (V a))->af R.length ps V=0:=fun V hV=>Classical.byContradiction fun h=>tb ⟨V,hV,h⟩;have h0:af R.length ps (aC R)=0:=z7_ (Q:=fun x=>x=0) (ie n R.length ps) mg (cR hw) hall R.length (n9 _) (aC R) (fun a ha=>hs.2 _ (ak (Nat.zero_le _) ha)) fun a h1 h2=>by omega
 rw [ig hR _ (n9 _)] at h0;have hp:=(il hR _ (n9 R.length)).1;have:dN R ps R.length=0:=by exact_mod_cast h0
 omega
theorem I7_ {n N:Nat} {m R:oP} {ps:Nat->Nat} (hR:aW n R ps) (hN:∀ i,i<m.length->aN N (aC m i)) (hs1:∀ r,aG 0 m r->Sp n (aG 0 R) r) (hV:∃ V:Nat->List Int,(∀ a,a<R.length->aG 0 m (V a))/\af R.length ps V≠0) (S:Nat->Nat):∃ z:Int,af R.length S (aC R)=(z:Rat)/\z.natAbs<=eV N R.length:=by
 obtain ⟨V,hV,hne⟩:=hV;have IY:∀ a,a<R.length->Sp n (aG 0 R) (V a):=fun a ha=>hs1 _ (hV a ha);have hP:=ig hR _ (n9 R.length);have hp:=(il hR _ (n9 R.length)).1;have Fi:af R.length ps (aC R)≠0:=by
  rw [hP];intro h;have:dN R ps R.length=0:=by exact_mod_cast h
  omega
 obtain ⟨t,ht⟩:=lL (Q:=fun x=>∃ t:Int,x=(t:Rat)*af R.length ps (aC R)) (ie n R.length ps) (Z0O _) hR.1 ⟨1,by grind⟩ V IY;have hc:=lL (Q:=fun x=>x=0) (Z2X (ie n R.length S) (ie n R.length ps) (af R.length ps (aC R)) (af R.length S (aC R))) mg hR.1 (by grind) V IY;rw [ht] at hc;have Cn:t≠0:=by
  intro h;rw [h] at ht;exact hne (by rw [ht];grind)
 have qO:af R.length S V=af R.length S (aC R)*(t:Rat):=by
  have h1:af R.length ps (aC R)*(af R.length S V-af R.length S (aC R)*(t:Rat))=0:=by grind
  rcases Rat.mul_eq_zero.1 h1 with h | h;·exact absurd h Fi
  ·grind
 have hB:∀ (V:Nat->List Int) (N:Nat),(∀ a,a<R.length->aN N (V a))->∃ z:Int,af R.length S V=(z:Rat)/\z.natAbs<=eV N R.length:=fun V N h=>Z0X R.length (fun a b=>(V a).getD (S b) 0) fun a b ha _=>(h a ha).getD _;obtain ⟨z',h1,h2⟩:=hB V N fun a ha=>by obtain ⟨i,-,hi,e⟩:=hV a ha;rw [<- e];exact hN i hi
 obtain ⟨M,hM⟩:∃ M,∀ a,a<R.length->aN M (aC R a):=by
  have:∀ k,∃ M,∀ a,a<k->aN M (aC R a):=by
   intro k
   induction k with
   | zero=>exact ⟨0,fun a ha=>by omega⟩
   | succ k ih =>
    obtain ⟨M,hM⟩:=ih;obtain ⟨L,hL⟩:∃ L,aN L (aC R k):=by
     have:∀ r:oQ,∃ L,aN L r:=by
      intro r
      induction r with
      | nil=>exact ⟨0,fun x hx=>by cases hx⟩
      | cons x r ih =>
       obtain ⟨L,hL⟩:=ih;refine ⟨L+x.natAbs,fun y hy=>?_⟩;rcases List.mem_cons.1 hy with rfl | hy;·omega
       ·have:=hL y hy;omega
     exact this _
    refine ⟨M+L,fun a ha=>?_⟩;by_cases hk:a=k;·rw [hk];exact hL.mono (by omega)
    ·exact (hM a (by omega)).mono (by omega)
  exact this _
 obtain ⟨z,h3,-⟩:=hB (aC R) M hM;refine ⟨z,h3,?_⟩;rw [h1,h3] at qO;have hz:z'=z*t:=by exact_mod_cast qO
 rw [hz,Int.natAbs_mul] at h2;exact n8 (Nat.le_mul_of_pos_right _ (by omega)) h2
theorem S1_ {n N:Nat} {m R:oP} {ps:Nat->Nat} (hR:aW n R ps) (hN:∀ i,i<m.length->aN N (aC m i)) (hs1:∀ r,aG 0 m r->Sp n (aG 0 R) r) (hV:∃ V:Nat->List Int,(∀ a,a<R.length->aG 0 m (V a))/\af R.length ps V≠0):∀ i,i<R.length->aN (R.length*eV N R.length) (aC R i):=by
 obtain ⟨k,hk⟩:=oO R.length;have hpp:=il hR _ (n9 R.length);have hP:=ig hR _ (n9 R.length);rw [<- hk] at hpp hP;have key:∀ i c,i<R.length->(aD R i c).natAbs<=R.length*eV N R.length:=by
  intro i c hi;rw [<- hk] at hi |-
  obtain ⟨x,hx⟩:=ma (k:=k) (bT ps (aC R)) (fun a b pU ha=>by
   have h:aD R a (ps b)=0:=hR.2.zero a (by omega) (ps b) (hR.2.mono b a pU (by omega));show ((aD R a (ps b):Int):Rat)=0
   rw [h];rfl) (fun a ha h=>by
   have h1:((aD R a (ps a):Int):Rat)=0:=h;have h2:aD R a (ps a)=0:=by exact_mod_cast h1
   have:=hR.2.pos a (by omega);omega) (fun a=>((aD R a c:Int):Rat)) k (n9 _)
  have sW:∀ r,r<k->af k (fun b=>if b=r then c else ps b) (aC R)=x r*(dN R ps k:Rat):=by
   intro r hr;rw [<- hP];have e1:af k (fun b=>if b=r then c else ps b) (aC R)=aL k (fun a b=>if b=r then (0:Rat)+aI k (fun l=>x l*bT ps (aC R) a l) else bT ps (aC R) a b):=by
    unfold af;refine cQ fun a b ha hb=>?_;by_cases qu:b=r
    ·rw [if_pos qu,<- hx a (by omega) ha];show (((aC R a).getD (if b=r then c else ps b) 0:Int):Rat)=_;rw [if_pos qu];show ((aD R a c:Int):Rat)=_;grind
    ·rw [if_neg qu];show (((aC R a).getD (if b=r then c else ps b) 0:Int):Rat)=_;rw [if_neg qu];rfl
   rw [e1,mq (bT ps (aC R)) hr (fun _=>0) k x (fun l a=>bT ps (aC R) a l)];have e2:aL k (fun a b=>if b=r then (0:Rat) else bT ps (aC R) a b)=0:=by
    rw [<- eU];exact h_ (r:=r) hr fun b _=>if_pos rfl
   rw [e2,nh (k:=r) hr fun l hl hne=>?_]
   ·have e3:aL k (fun a b=>if b=r then bT ps (aC R) a r else bT ps (aC R) a b)=af k ps (aC R):=by
     unfold af;refine cQ fun a b _ _=>?_;by_cases qu:b=r;·rw [if_pos qu,qu]
     ·rw [if_neg qu]
    rw [e3];grind
   ·have e4:aL k (fun a b=>if b=r then bT ps (aC R) a l else bT ps (aC R) a b)=0 :=
     lR hr hl (fun h=>hne h.symm) fun b _=>by rw [if_pos rfl,if_neg hne]
    rw [e4];grind
  have hsum:((dN R ps k:Int):Rat)*((aD R i c:Int):Rat)=aI k fun l=>af k (fun b=>if b=l then c else ps b) (aC R)*bT ps (aC R) i l:=by
   have zn:((aD R i c:Int):Rat)=aI k fun l=>x l*bT ps (aC R) i l:=hx i (by omega) hi;rw [zn,<- iL];refine cd fun l hl=>?_;rw [sW l hl];grind
  obtain ⟨z,hz1,hz2⟩:=u1_ (n:=k) (B:=eV N k*(dN R ps k).natAbs) (f:=fun l=>af k (fun b=>if b=l then c else ps b) (aC R)*bT ps (aC R) i l) fun l hl=>by
   obtain ⟨y,tT,rF⟩:=I7_ hR hN hs1 hV (fun b=>if b=l then c else ps b);rw [<- hk] at tT rF;refine ⟨y*aD R i (ps l),?_,?_⟩;·rw [tT,Rat.intCast_mul];rfl
   ·rw [Int.natAbs_mul];refine Nat.mul_le_mul rF ?_;have h5:=hpp.2 l hl;have h6:=hR.2.pos l (by omega);have h7:(aD R i (ps l)).natAbs<=(aD R l (ps l)).natAbs:=by
     rcases Nat.lt_trichotomy i l with h | h | h;·have:=hR.2.red i l h (by omega);omega
     ·rw [h];exact n9 _
     ·rw [hR.2.zero i (by omega) (ps l) (hR.2.mono l i h (by omega))];simp
    omega
  rw [hz1] at hsum;have he:dN R ps k*aD R i c=z:=by exact_mod_cast hsum
  rw [<- he,Int.natAbs_mul,<- Nat.mul_assoc,Nat.mul_comm] at hz2;exact Nat.le_of_mul_le_mul_right hz2 (by omega)
 intro i hi y hy;obtain ⟨c,hc⟩:=List.getElem?_of_mem hy;have:=key i c hi;unfold aD at this;rw [nu,hc] at this;exact this
theorem R9_ {n N:Nat} {m R:oP} {ps:Nat->Nat} (hR:aW n R ps) (hw:ae n m) (hN:∀ i,i<m.length->aN N (aC m i)) (hs:bP n (aG 0 m) (aG 0 R)):∀ i,i<R.length->aN (R.length*eV N R.length) (aC R i) :=
 S1_ hR hN hs.1 (Z0p hR hw hs)
def fB {α:Type} (p:α->α->Bool) (xs ys:List α):Bool:=decide (xs.length=ys.length) && (xs.zip ys).all fun z=>p z.1 z.2
theorem r1_ {α:Type} (p:α->α->Bool) (x y:α) (xs ys:List α):fB p (x::xs) (y::ys)=(p x y && fB p xs ys):=by
 simp only [fB,List.length_cons,List.zip_cons_cons,List.all_cons,Nat.add_right_cancel_iff];cases p x y <;> simp
theorem x2_ {α:Type} [BEq α] [LawfulBEq α]:∀ xs ys:List α,fB (· == ·) xs ys=(xs == ys)
 | [],[]=>rfl
 | [],y::ys=>by simp [fB]
 | x::xs,[]=>by simp [fB]
 | x::xs,y::ys=>by rw [r1_,x2_ xs ys];rfl
theorem X6_ {α:Type} {R:World->Value->α->Prop} (hR:∀ w w' v x,aA w w'->R w v x->R w' v x) (xs ys:List α) (u v:Value) (g:Nat) (lb:Array Value) (p:α->α->Bool) (w:World) (h:aR 1 (aP R) w u xs) (k:aR 1 (aP R) w v ys)
  (eg:∀ args w,(callFunc g args).run prog w=.ok (.enter g args) w) (hp:∀ W x y a b,x∈xs->y∈ys->aA w W->R W a x->R W b y->Calls prog g (#[a,b]++lb) W fun e W'=>e=.returned (.bool (p x y))/\aA W W') :
  oL 168 #[u,v,.func (.func g) #[] lb] w (.bool (fB p xs ys)):=by
 obtain ⟨a,c,rfl,h1,h2,-,hc⟩:=aP.open h;obtain ⟨a',c',rfl,k1,k2,-,kc⟩:=aP.open k;have HC:=np hc;have KC:=np kc;have HP:=np hp;have HR:=np hR;clear hc kc h k hp hR;unfold maxLen at h2 k2;by_cases hl:xs.length=ys.length
 ·have hn:((xs.length:Int) != (ys.length:Int))=false:=by simp [hl]
  have qU:xs.length<=ys.length:=by omega
  have xS:ys.length<=xs.length:=by omega
  have HL:=np hl;clear hl
  go_enter func168,ntmps168
  go_wp2
  go_loopw [17] (fun t wr=>∃ j:Nat,j<=xs.length/\t=.int .i64 j/\aA w wr/\Hid (fB p (xs.drop j) (ys.drop j)=fB p xs ys)) (fun t _=>xs.length-(intOf t).toNat)
  case atStart=>exact ⟨0,by omega,rfl,aA.refl _,rfl⟩
  case round =>
   obtain ⟨j,hj,rfl,hE,HT⟩:=hrel;obtain ⟨wo,rfl⟩:∃ wo:World,wo=wr:=⟨_,rfl⟩;by_cases hlt:j<xs.length
   ·obtain ⟨b,off,rfl,hb,hcell⟩:=HC (by intro e;simp [e] at hlt);obtain ⟨b',off',rfl,pd,om⟩:=KC.out (by intro e;simp [e] at qU;simp [qU] at hlt);obtain ⟨x,hx⟩:∃ x,xs[j]?=some x:=⟨xs[j],ns hlt⟩;obtain ⟨y,hy⟩:∃ y,ys[j]?=some y:=⟨ys[j]'(by omega),ns _⟩;obtain ⟨vx,pV,o7⟩:=hcell j x hx;obtain ⟨vy,zo,rC⟩:=om j y hy;have g1:=hE.cell o7;have g2:=hE.cell rC;have q1:(j:Int)<(xs.length:Int):=(by omega);have q2:(j:Int)<(ys.length:Int):=(by omega);have hcall:=HP wo x y vx vy (nw hx) (nw hy) hE (HR _ _ _ _ hE pV) (HR _ _ _ _ hE zo);have hd:fB p (xs.drop j) (ys.drop j)=(p x y && fB p (xs.drop (j+1)) (ys.drop (j+1))):=by
     obtain ⟨H7,rfl⟩:=nt.1 hx;obtain ⟨vk,rfl⟩:=nt.1 hy;rw [List.drop_eq_getElem_cons H7,List.drop_eq_getElem_cons vk,r1_]
    cases hq:p x y with
    | true =>
     rw [hq] at hcall hd;rw [Bool.true_and] at hd;have zc:Hid (fB p (xs.drop (j+1)) (ys.drop (j+1))=fB p xs ys):=hd.symm.trans HT;have HCALL:=np hcall;clear hcall hq hd pV zo hx hy hcell om o7 rC;go_wp2_with (go_at_fn g;refine HCALL.mono ?_;rintro e w' ⟨rfl,rD⟩);go_roundw
     case rel=>exact ⟨j+1,by omega,by go_num,hE.trans (by assumption),zc⟩
     case measure=>simp [intOf];omega
    | false =>
     rw [hq] at hcall hd;rw [Bool.false_and] at hd;have HF:Hid (fB p xs ys=false):=HT.symm.trans hd;have HCALL:=np hcall;clear hcall hq hd pV zo hx hy hcell om o7 rC;go_wp2_with (go_at_fn g;refine HCALL.mono ?_;rintro e w' ⟨rfl,rD⟩);go_ret;rw [HF.out];exact ⟨rfl,hE.trans (by assumption)⟩
   ·have hge:xs.length<=j:=(by omega);have zb:Hid (fB p xs ys=true):=by
     unfold Hid;rw [<- HT.out,List.drop_of_length_le (by omega),List.drop_of_length_le (by omega)];rfl
    go_wp2
    go_ret;rw [zb.out];exact ⟨rfl,hE⟩
 ·have hn:((xs.length:Int) != (ys.length:Int))=true:=by simp;omega
  have HF:Hid (fB p xs ys=false):=by
   unfold Hid fB;simp [hl]
  clear hl
  go_enter func168,ntmps168
  go_wp2
  go_ret;rw [HF.out];exact ⟨rfl,aA.refl _⟩
theorem O9_ (xs ys:oQ) (u v:Value) (w:World) (h:aK w u xs) (k:aK w v ys) :
  oL 45 #[u,v] w (.bool (xs == ys)):=by
 have HE:=np (O4_ xs ys u v w h k);clear h k
 go_enter func45,ntmps45
 go_wp2_with fail;refine o_ HE ?_;intro w1 HE1;go_wp2_with fail;go_ret;exact ⟨rfl,HE1⟩
def bj (w:World) (v:Value) (n:Int) (xss:oP):Prop:=∃ u,v=.agg #[.int .i64 n,u]/\aV w u xss
theorem bj.ext {w w':World} {v:Value} {n:Int} {xss:oP} (h:bj w v n xss) (he:aA w w'):bj w' v n xss:=by
 obtain ⟨u,h1,h2⟩:=h;exact ⟨u,h1,h2.ext he⟩
def bz (n:Int) (xss:oP):Int:=if dA n xss=0 then (if fW xss=true then 0 else 7) else dA n xss
theorem u8_ {n:Int}:∀ {xss:oP},ed n xss=0->∀ r∈xss,kh r/\(r.length:Int)=n
 | [],_,r,h=>by simp at h
 | x::l,h,r,hr=>by
  unfold ed at h;by_cases hx:dC x=0
  ·rw [if_pos hx] at h;by_cases hn:(x.length:Int)=n
   ·rw [if_pos hn] at h;rcases List.mem_cons.1 hr with rfl | hr;·exact ⟨(mA _).1 hx,hn⟩
    ·exact u8_ h r hr
   ·rw [if_neg hn] at h;cases h
  ·rw [if_neg hx] at h;exact absurd h hx
theorem jP {n:Int} {xss:oP} (h:dA n xss=0):0<=n/\n<=12/\xss.length<=12/\∀ r∈xss,kh r/\(r.length:Int)=n:=by
 unfold dA at h;by_cases h1:n<0\/12<n;·rw [if_pos h1] at h;cases h
 ·rw [if_neg h1] at h;by_cases h2:12<xss.length;·rw [if_pos h2] at h;cases h
  ·rw [if_neg h2] at h;exact ⟨by omega,by omega,by omega,u8_ h⟩
theorem z0_ {n:Nat} (hn:n<=12):∀ {xss:oP},(∀ r∈xss,kh r/\r.length=n)->iN n xss=0
 | [],_=>rfl
 | x::l,h=>by
  have hx:=h x (by simp);unfold iN;rw [if_neg (by omega),if_pos hx.2];have:¬ (x.any fun y=>!de y)=true:=by
   have h0:=(mA x).2 hx.1;unfold dC at h0;intro hq;rw [if_neg (by have:=hx.2;omega),if_pos hq] at h0;cases h0
  rw [if_neg this];exact z0_ hn fun r hr=>h r (by simp [hr])
theorem Z0v {n:Int} {xss:oP} (h:dA n xss=0):cM xss=0:=by
 obtain ⟨h0,h1,h2,h3⟩:=jP h;unfold cM;rw [if_neg (by omega)];cases xss with
 | nil=>rfl
 | cons x l =>
  have hx:=(h3 x (by simp)).2;exact z0_ (n:=x.length) (by omega) fun r hr=>⟨(h3 r hr).1,by have:=(h3 r hr).2;omega⟩
theorem k0_ (xss:oP) (v:Value) (n:Nat) (w:World) (h:aV w v xss) (hE:cM xss=0) (hn:∀ r∈xss,r.length=n) :
  oL 167 #[v] w (.tuple #[.bool (fW xss),.int .i64 0]):=by
 have HT:=np (mF xss v w h);rw [hE] at HT;have HF:=np (fun W (hW:aA w W)=>a8_ xss v n W (h.ext hW) hn);obtain ⟨a,c,rfl,h1,h2,-,hc⟩:=aP.open h;clear h hE hn hc
 go_enter func167,ntmps167
 go_wp2_with fail;refine o_ HT ?_;intro w1 HE1;clear HT;go_wp2_with fail;refine p_ (HF _ HE1) (aA.trans HE1) ?_;intro w2 HE2;clear HF;go_wp2_with fail;go_ret2;exact ⟨rfl,HE2⟩
theorem kX (n:Int) (xss:oP) (v:Value) (w:World) (h:bj w v n xss) :
  oL 182 #[v] w (.int .i64 (bz n xss)):=by
 obtain ⟨u,rfl,hu⟩:=h;have HC:=np (fun W (hW:aA w W)=>O6_ xss n u W (hu.ext hW));have HU:=np hu;obtain ⟨a,c,rfl,h1,h2,-,hc⟩:=aP.open hu;clear hu hc;have k0:(w.alloc (.cells #[.int .i64 n,.slice a xss.length c] 76)).cell? ⟨w.heap.size,0,none⟩=some (.int .i64 n):=by rw [World.cell?_alloc_new];rfl
 have k1:(w.alloc (.cells #[.int .i64 n,.slice a xss.length c] 76)).cell? ⟨w.heap.size,1,none⟩=some (.slice a xss.length c):=by rw [World.cell?_alloc_new];rfl
 by_cases hl:dA n xss=0
 ·have HFo:=np (fun W (hW:aA w W)=>k0_ xss _ n.toNat W (HU.ext hW) (Z0v hl) (fun r hr=>by have h1:=((jP hl).2.2.2 r hr).2;have h2:=(jP hl).1;omega));have HV:Hid (bz n xss=if fW xss=true then 0 else 7):=by unfold Hid bz;rw [if_pos hl]
  rw [hl] at HC;obtain ⟨E,hE⟩:=oN (bz n xss);rw [hE] at HV |-;clear hl HU hE
  go_enter func182,ntmps182
  go_wp2_with fail;refine (HC _ (aA.alloc _ _)).mono ?_;rintro e w1 ⟨rfl,hE1⟩;have g1:=hE1.cell k1;have HE1:=np (aA.trans (aA.alloc _ _) hE1);clear hE1 HC k0 k1;cases hb:fW xss with
  | true =>
   have HV2:Hid (E=0):=(by rw [hb] at HV;exact HV);rw [hb] at HFo;go_wp2_with fail;refine p_ (HFo _ HE1) (aA.trans HE1) ?_;intro w2 HE2;clear HFo hb;go_wp2_with fail;go_ret;exact ⟨by rw [HV2.out];rfl,HE2⟩
  | false =>
   have HV2:Hid (E=7):=(by rw [hb] at HV;exact HV);rw [hb] at HFo;go_wp2_with fail;refine p_ (HFo _ HE1) (aA.trans HE1) ?_;intro w2 HE2;clear HFo hb;go_wp2_with fail;go_ret;exact ⟨by rw [HV2.out];rfl,HE2⟩
 ·have HV:Hid (bz n xss=dA n xss):=by unfold Hid bz;rw [if_neg hl]
  rw [HV.out];clear HV HU;obtain ⟨E,hE⟩:=oN (dA n xss);rw [hE] at HC hl |-;clear hE
  go_enter func182,ntmps182
  go_wp2_with fail;refine p_ (HC _ (aA.alloc _ _)) (aA.trans (aA.alloc _ _)) ?_;intro w1 HE1;clear HC k0 k1;go_wp2_with fail;go_ret;exact ⟨rfl,HE1⟩
theorem q0_ (n k:Int) (xss yss:oP) (v u:Value) (w:World) (h:bj w v n xss) (h':bj w u k yss) :
  oL 183 #[v,u] w (.bool (decide (n=k) && xss == yss)):=by
 obtain ⟨v1,rfl,hv⟩:=h;obtain ⟨u1,rfl,hu⟩:=h';have HEQ:Hid (∀ W,aA w W->oL 168 #[v1,u1,.func (.func 45) #[] #[]] W (.bool (xss == yss))):=fun W hW=>by
  have:=X6_ (R:=aK) (fun _ _ _ _ he h=>aK.ext h he) xss yss v1 u1 45 #[] (· == ·) W (hv.ext hW) (hu.ext hW) (enters_of func45 (by kernel_rfl) rfl) (fun W x y a b _ _ _ ha hb=>O9_ x y a b W ha hb);rw [x2_] at this;exact this
 obtain ⟨a,c,rfl,h1,h2,-,hc⟩:=aP.open hv;obtain ⟨a',c',rfl,k1,k2,-,kc⟩:=aP.open hu;clear hv hu hc kc;by_cases BB:n=k
 ·subst BB;obtain ⟨B,hB⟩:∃ B:Bool,(xss == yss)=B:=⟨_,rfl⟩;rw [hB] at HEQ |-;clear hB;have hd:(decide (n=n))=true:=oH rfl;rw [hd,Bool.true_and];clear hd
  go_enter func183,ntmps183
  go_wp2_with fail;refine p_ (HEQ _ ((aA.alloc _ _).trans (aA.alloc _ _))) (aA.trans ((aA.alloc _ _).trans (aA.alloc _ _))) ?_;intro w1 HE1;clear HEQ;go_wp2_with fail;go_ret;exact ⟨rfl,HE1⟩
 ·have HF:Hid ((decide (n=k) && xss == yss)=false):=by unfold Hid;rw [oG BB];rfl
  rw [HF.out];clear HEQ HF
  go_enter func183,ntmps183
  go_wp2_with fail;go_ret;exact ⟨rfl,(aA.alloc _ _).trans (aA.alloc _ _)⟩
def iI (n:Int) (xss:oP) (x:oQ):Int:=if bz n xss=0 then (if dC x=0 then (if (x.length:Int)=n then 0 else 5) else dC x) else bz n xss
theorem t5_ (n:Int) (xss:oP) (x:oQ) (v vx:Value) (w:World) (h:bj w v n xss) (hx:aK w vx x) :
  oL 219 #[v,vx] w (.int .i64 (iI n xss x)):=by
 have HC:=np (fun W (hW:aA w W)=>kX n xss v W (h.ext hW));have HR:=np (fun W (hW:aA w W)=>V0_ x vx W (hx.ext hW));obtain ⟨u,rfl,hu⟩:=h;obtain ⟨a,c,rfl,h1,h2,-,hc⟩:=aP.open hu;obtain ⟨ax,cx,rfl,x1,x2,-,-,xc⟩:=hx.open;clear hu hc hx xc;have HK0:=np (dE w #[.int .i64 n,.slice a xss.length c] 76);have q0:=ag HK0 0;simp only [oF,oE,oD] at q0;obtain ⟨E,hE⟩:=oN (bz n xss);obtain ⟨F,hF⟩:=oN (dC x);obtain ⟨G,hG⟩:=oN (iI n xss x);have HV:Hid (G=if E=0 then (if F=0 then (if (x.length:Int)=n then 0 else 5) else F) else E):=by unfold Hid;rw [<- hG,<- hE,<- hF];rfl
 rw [hE] at HC;rw [hF] at HR;rw [hG];clear hE hF hG;by_cases qG:E=0
 ·subst qG;have HV1:Hid (G=if F=0 then (if (x.length:Int)=n then 0 else 5) else F):=HV.out;by_cases Fw:F=0
  ·subst Fw;have HV2:Hid (G=if (x.length:Int)=n then 0 else 5):=HV1.out;by_cases hn:(x.length:Int)=n
   ·have GU:Hid (G=0):=(by rw [if_pos hn] at HV2;exact HV2);clear HV HV1 HV2
    go_enter func219,ntmps219
    go_wp2_with (refine wpList_load_row rfl 76 _ rfl w.heap.size rfl _ #[.int .i64 n,.slice a xss.length c] (0,0) _ HK0 underlying76 rfl (by kernel_rfl) ?_);refine (HC _ (aA.alloc _ _)).mono ?_;rintro e w1 ⟨rfl,hE1⟩;have q1:=hE1.cell q0;have HE1:=np (aA.trans (aA.alloc _ _) hE1);clear hE1 HC;go_wp2_with fail;refine (HR _ HE1).mono ?_;rintro e w2 ⟨rfl,hE2⟩;have q2:=hE2.cell q1;have HE2:=np (aA.trans HE1 hE2);clear hE2 HR;go_wp2_with fail;go_ret;exact ⟨by rw [GU.out];rfl,HE2⟩
   ·have GU:Hid (G=5):=(by rw [if_neg hn] at HV2;exact HV2);clear HV HV1 HV2
    go_enter func219,ntmps219
    go_wp2_with (refine wpList_load_row rfl 76 _ rfl w.heap.size rfl _ #[.int .i64 n,.slice a xss.length c] (0,0) _ HK0 underlying76 rfl (by kernel_rfl) ?_);refine (HC _ (aA.alloc _ _)).mono ?_;rintro e w1 ⟨rfl,hE1⟩;have q1:=hE1.cell q0;have HE1:=np (aA.trans (aA.alloc _ _) hE1);clear hE1 HC;go_wp2_with fail;refine (HR _ HE1).mono ?_;rintro e w2 ⟨rfl,hE2⟩;have q2:=hE2.cell q1;have HE2:=np (aA.trans HE1 hE2);clear hE2 HR;go_wp2_with fail;go_ret;exact ⟨by rw [GU.out];rfl,HE2⟩
  ·have HV2:Hid (G=F):=(by rw [if_neg Fw] at HV1;exact HV1);rw [HV2.out];clear HV HV1 HV2
   go_enter func219,ntmps219
   go_wp2_with (refine wpList_load_row rfl 76 _ rfl w.heap.size rfl _ #[.int .i64 n,.slice a xss.length c] (0,0) _ HK0 underlying76 rfl (by kernel_rfl) ?_);refine p_ (HC _ (aA.alloc _ _)) (aA.trans (aA.alloc _ _)) ?_;intro w1 HE1;clear HC;go_wp2_with fail;refine p_ (HR _ HE1) (aA.trans HE1) ?_;intro w2 HE2;clear HR;go_wp2_with fail;go_ret;exact ⟨rfl,HE2⟩
 ·have HV2:Hid (G=E):=by rw [if_neg qG] at HV;exact HV
  rw [HV2.out];clear HV HV2
  go_enter func219,ntmps219
  go_wp2_with (refine wpList_load_row rfl 76 _ rfl w.heap.size rfl _ #[.int .i64 n,.slice a xss.length c] (0,0) _ HK0 underlying76 rfl (by kernel_rfl) ?_);refine p_ (HC _ (aA.alloc _ _)) (aA.trans (aA.alloc _ _)) ?_;intro w1 HE1;clear HC;go_wp2_with fail;go_ret;exact ⟨rfl,HE1⟩
end Go.Proofs.YtoonaddcfakamaaGreatDoor
