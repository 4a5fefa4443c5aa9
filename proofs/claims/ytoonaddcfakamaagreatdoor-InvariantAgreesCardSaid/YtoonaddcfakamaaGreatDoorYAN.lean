import Derived.Test.YtoonaddcfakamaaGreatDoorYAM
import Derived.Test.YtoonaddcfakamaaGreatDoorYAF
import Derived.Laws.Rows
import Derived.Test.YtoonaddcfakamaaGreatDoorYAJ
import Derived.Test.YtoonaddcfakamaaGreatDoorYAA
import Derived.Laws.Bits64b
import Derived.Test.YtoonaddcfakamaaGreatDoorYAD
set_option linter.unusedVariables false
set_option linter.unusedSimpArgs false
set_option maxRecDepth 1000000
set_option maxHeartbeats 8000000
namespace Go.Proofs.YtoonaddcfakamaaGreatDoor
open Go.RowKit Go.Proofs.Tryz
structure ev (w:World) (g:Nat) (xs:oQ):Prop where
 lt:g<w.heap.size
 cell:∀ (j:Nat) x,xs[j]?=some x->w.cell? ⟨g,j,none⟩=some (.int .i64 x)
 free:∀ j,w.frozen? ⟨g,j,none⟩=false
theorem ev.same {w w':World} {g:Nat} {xs:oQ} (h:ev w g xs) (hs:w.heap.size<=w'.heap.size) (hg:w'.heap[g]?=w.heap[g]?):ev w' g xs :=
 ⟨n7 h.lt hs,fun j x hx=>by rw [<- h.cell j x hx];unfold World.cell?;simp only [hg],fun j=>by rw [<- h.free j];unfold World.frozen?;simp only [hg]⟩
theorem ev.ext {w w':World} {g:Nat} {xs:oQ} (h:ev w g xs) (he:aA w w'):ev w' g xs:=h.same he.size (he.block g h.lt)
theorem ev.ofOwn {w:World} {B g n c:Nat} {xs:oQ} (h:w.ownsRow B 3 1 (.slice (some ⟨g,0,none⟩) n c) n (xs.map (Value.int .i64 ·))):ev w g xs:=by
 have hl:=h.lt g (by simp [Value.ownBlock]);have hc:=h.cells (g:=g) (by simp [Value.ownBlock]);refine ⟨hl.2,fun j x hx=>?_,fun j=>h.frozenAt j⟩;have:=hc j (.int .i64 x) (by rw [nx,hx];rfl);rw [show (⟨g,0,none⟩:Addr).add j=⟨g,j,none⟩ by unfold Addr.add;split <;> simp_all] at this;exact this
theorem ev.other {w:World} {g b i:Nat} {xs:oQ} (h:ev w g xs) (hne:g≠b) (y:Value):ev (w.setCell ⟨b,i,none⟩ y) g xs :=
 h.same (by simp [World.setCell]) (Below.heap_setCell _ _ _ _ hne)
theorem ev.set {w:World} {g:Nat} {xs:oQ} (h:ev w g xs) (k:Nat) (hk:k<xs.length) (y:Int):ev (w.setCell ⟨g,k,none⟩ (.int .i64 y)) g (xs.set k y):=by
 refine ⟨by simp only [World.setCell,Array.size_modify];exact h.lt,fun j x hj=>?_,fun j=>?_⟩
 ·rw [oK] at hj;by_cases e:k=j
  ·subst e;rw [if_pos rfl,if_pos hk] at hj;cases hj;exact World.cell?_setCell_same w _ _ (h.cell k _ (ns hk))
  ·rw [if_neg e] at hj;rw [World.cell?_setCell_other _ _ _ _ (by intro e2;simp only [Addr.mk.injEq] at e2;omega)];exact h.cell j x hj
 ·rw [<- h.free j];exact World.frozen?_setCell ..
theorem ev.ints {w:World} {g m:Nat} {xs:oQ} (h:ev w g xs) (hm:xs.length<=m) (qm:m<=maxLen) (hb:∀ x∈xs,-9223372036854775808<=x/\x<=9223372036854775807):aK w (.slice (some ⟨g,0,none⟩) xs.length m) xs:=by
 refine ⟨xs.map fun x=>[Value.int .i64 x],by simp,by intro u hu;obtain ⟨x,_,rfl⟩:=List.mem_map.1 hu;rfl,?_,fun j u x hu hx=>?_⟩
 ·refine ⟨some ⟨g,0,none⟩,m,rfl,hm,qm,(fun e=>by cases e),fun _=>⟨g,0,rfl,h.lt,fun j u hu=>?_⟩⟩;rw [eW,nx] at hu;cases hx:xs[j]? with
  | none=>rw [hx] at hu;cases hu
  | some x=>rw [hx] at hu;cases hu;rw [Nat.zero_add];exact h.cell j x hx
 ·rw [nx,hx] at hu;cases hu;exact ⟨rfl,hb x (nw hx)⟩
def fc (c:Nat):List Int:=match c with | 0=>[2,3,5] | 1=>[2,3,5,7] | 2=>[2,3] | 3=>[2,3,7] | 4=>[2,5,7] | 5=>[3,5,7] | 6=>[2,3,5,11] | 7=>[2] | 8=>[2,3,7,13] | _=>[3,5,7,13]
theorem X3_ (c:Nat):dM (fc c)=0/\1<=(fc c).length/\(fc c).length<=4:=by
 match c with
 | 0=>decide +kernel
 | 1=>decide +kernel
 | 2=>decide +kernel
 | 3=>decide +kernel
 | 4=>decide +kernel
 | 5=>decide +kernel
 | 6=>decide +kernel
 | 7=>decide +kernel
 | 8=>decide +kernel
 | _+9=>exact (by decide +kernel:dM [3,5,7,13]=0/\1<=[3,5,7,13].length/\[3,5,7,13].length<=4)
def mY (w:World):List Obj->World
 | []=>w
 | o::l=>mY (w.alloc o) l
theorem R7_:∀ (l:List Obj) (w:World),aA w (mY w l)
 | [],w=>aA.refl w
 | o::l,w=>(aA.alloc w o).trans (R7_ l (w.alloc o))
theorem F9_:∀ (l:List Obj) (w:World) (i:Nat) (o:Obj),l[i]?=some o->(mY w l).heap[w.heap.size+i]?=some o
 | [],w,i,o,h=>by simp at h
 | x::l,w,0,o,h=>by
  simp at h;subst h;exact aF (heap_alloc_new w x) (R7_ l (w.alloc x))
 | x::l,w,i+1,o,h=>by
  have:=F9_ l (w.alloc x) i o (by simpa using h);rw [show (w.alloc x).heap.size=w.heap.size+1 by simp] at this;rw [show w.heap.size+(i+1)=w.heap.size+1+i by omega];exact this
theorem a6_ {W:World} {S:Nat->Prop} {B:Nat} {xs:oQ} (h:W.heap[B]?=some (.cells (xs.map (Value.int .i64)).toArray 3 (0,0))) (hS:¬ S B) (hl:xs.length<=maxLen) (hb:∀ x∈xs,-9223372036854775808<=x/\x<=9223372036854775807) :
  aT W S fun W=>aK W (.slice (some ⟨B,0,none⟩) xs.length xs.length) xs:=fun W' hG=>by
 have h':=(hG.block B (c_ h) hS).trans h;exact ev.ints ⟨c_ h',fun j x hx=>by rw [ag h' j];simp [hx],fun j=>cO h' j⟩ (n9 _) hl hb
def v1_ (w:World):List Obj:=[.cells #[.int .i64 2,.int .i64 3,.int .i64 5] 3,.cells #[.int .i64 2,.int .i64 3,.int .i64 5,.int .i64 7] 3,.cells #[.int .i64 2,.int .i64 3] 3,.cells #[.int .i64 2,.int .i64 3,.int .i64 7] 3,.cells #[.int .i64 2,.int .i64 5,.int .i64 7] 3,.cells #[.int .i64 3,.int .i64 5,.int .i64 7] 3,.cells #[.int .i64 2,.int .i64 3,.int .i64 5,.int .i64 11] 3,.cells #[.int .i64 2] 3,.cells #[.int .i64 2,.int .i64 3,.int .i64 7,.int .i64 13] 3,.cells #[.int .i64 3,.int .i64 5,.int .i64 7,.int .i64 13] 3,.cells #[.slice (some ⟨w.heap.size,0,none⟩) 3 3,.slice (some ⟨w.heap.size+1,0,none⟩) 4 4,.slice (some ⟨w.heap.size+1+1,0,none⟩) 2 2,.slice (some ⟨w.heap.size+1+1+1,0,none⟩) 3 3,.slice (some ⟨w.heap.size+1+1+1+1,0,none⟩) 3 3,.slice (some ⟨w.heap.size+1+1+1+1+1,0,none⟩) 3 3,.slice (some ⟨w.heap.size+1+1+1+1+1+1,0,none⟩) 4 4,.slice (some ⟨w.heap.size+1+1+1+1+1+1+1,0,none⟩) 1 1,.slice (some ⟨w.heap.size+1+1+1+1+1+1+1+1,0,none⟩) 4 4,.slice (some ⟨w.heap.size+1+1+1+1+1+1+1+1+1,0,none⟩) 4 4] 30]
theorem ik (w:World) (k:Nat) (hk:k<=9) (ho:(v1_ w)[k]?=some (.cells ((fc k).map (Value.int .i64)).toArray 3)) (hb:∀ x∈fc k,-9223372036854775808<=x/\x<=9223372036854775807) :
  ∃ a cp,Ending.returned (.slice (some ⟨w.heap.size+k,0,none⟩) (fc k).length (fc k).length)=.returned (.slice a (fc k).length cp)/\aT (mY w (v1_ w)) (·<w.heap.size) (fun W=>aK W (.slice a (fc k).length cp) (fc k))/\aA w (mY w (v1_ w)) :=
 ⟨_,_,rfl,a6_ (F9_ _ w k _ ho) (by omega) (by have:=(X3_ k).2.2;unfold maxLen;omega) hb,R7_ _ w⟩
theorem p9_ (c:Int) (sx:0<=c) (pc:c<=255) (w:World) :
  Calls prog 79 #[.int .u8 c] w fun e w'=>∃ a cp,e=.returned (.slice a (fc (c%10).toNat).length cp)/\aT w' (·<w.heap.size) (fun W=>aK W (.slice a (fc (c%10).toNat).length cp) (fc (c%10).toNat))/\aA w w':=by
 have hm:c.tmod 10=c%10:=by rw [Int.tmod_eq_emod_of_nonneg sx]
 obtain ⟨k,hk,hk9⟩:∃ k:Nat,c%10=(k:Int)/\k<=9:=⟨(c%10).toNat,by omega,by omega⟩;rw [hk] at hm |-;rw [Int.toNat_natCast];have hw:IntKind.wrap .i64 c=c:=by rw [IntKind.wrap_i64];omega
 clear hk;have o9:k=0\/k=1\/k=2\/k=3\/k=4\/k=5\/k=6\/k=7\/k=8\/k=9:=by omega
 rcases o9 with rfl | rfl | rfl | rfl | rfl | rfl | rfl | rfl | rfl | rfl
 ·go_enter func79,ntmps79
  go_wp2_with fail;go_ret;exact ik w 0 (by decide) rfl (by decide)
 ·go_enter func79,ntmps79
  go_wp2_with fail;go_ret;exact ik w 1 (by decide) rfl (by decide)
 ·go_enter func79,ntmps79
  go_wp2_with fail;go_ret;exact ik w 2 (by decide) rfl (by decide)
 ·go_enter func79,ntmps79
  go_wp2_with fail;go_ret;exact ik w 3 (by decide) rfl (by decide)
 ·go_enter func79,ntmps79
  go_wp2_with fail;go_ret;exact ik w 4 (by decide) rfl (by decide)
 ·go_enter func79,ntmps79
  go_wp2_with fail;go_ret;exact ik w 5 (by decide) rfl (by decide)
 ·go_enter func79,ntmps79
  go_wp2_with fail;go_ret;exact ik w 6 (by decide) rfl (by decide)
 ·go_enter func79,ntmps79
  go_wp2_with fail;go_ret;exact ik w 7 (by decide) rfl (by decide)
 ·go_enter func79,ntmps79
  go_wp2_with fail;go_ret;exact ik w 8 (by decide) rfl (by decide)
 ·go_enter func79,ntmps79
  go_wp2_with fail;go_ret;exact ik w 9 (by decide) rfl (by decide)
theorem Z2d {n:Nat} {x:oQ}:∀ y∈fG n x,-9<=y/\y<=9:=by
 intro y hy;obtain ⟨z,-,rfl⟩:=List.mem_map.1 hy;have:=Z2E z 10 (by decide);omega
theorem F3_ (n:Nat) (P x:oQ) (vp:Value) (w:World) (hP:aK w vp P) (hPl:P.length=n) (hn:n<=4) (hx:x.length=4) (hxb:∀ a∈x,-128<=a/\a<=127) :
  Calls prog 17 #[vp,.agg (x.map (Value.int .i8)).toArray] w fun e w'=>∃ a c,e=.returned (.slice a n c)/\w'.ownsRow w.heap.size 3 1 (.slice a n c) n ((fG n x).map (Value.int .i64))/\aA w w':=by
 obtain ⟨ap,cp,rfl,-⟩:=hP.open;rw [hPl];clear hP hPl;obtain ⟨x0,x1,x2,x3,rfl⟩:∃ a b c d,x=[a,b,c,d]:=by
  match x,hx with
  | [a,b,c,d],_=>exact ⟨a,b,c,d,rfl⟩
 go_enter func17,ntmps17
 go_wp2_with fail;obtain ⟨W1,oZ⟩:=oN (w.alloc (.cells #[.int .i8 x0,.int .i8 x1,.int .i8 x2,.int .i8 x3] 26));have HE1:Hid (aA w W1):=by rw [<- oZ];exact aA.alloc _ _
 have HBX:Hid (W1.heap[w.heap.size]?=some (.cells #[.int .i8 x0,.int .i8 x1,.int .i8 x2,.int .i8 x3] 26 (0,0))):=by rw [<- oZ];exact dE _ _ _
 rw [oZ];clear oZ;obtain ⟨x,hX⟩:=oO ([x0,x1,x2,x3]);have HCX:Hid (∀ W,aA W1 W->∀ i,i<4->W.cell? ⟨w.heap.size,i,none⟩=some (.int .i8 (x.getD i 0))):=fun W hW i hi=>by
  have h:=ag (aF HBX hW) i;rw [h,hX];have hc:i=0\/i=1\/i=2\/i=3:=by omega
  rcases hc with rfl | rfl | rfl | rfl <;> rfl
 have HXB:Hid (∀ i,-128<=x.getD i 0/\x.getD i 0<=127):=fun i=>by
  rw [nu];cases hq:x[i]? with
  | none=>decide
  | some y=>exact hxb y (by rw [<- hX];exact nw hq)
 have HXL:Hid (x.length=4):=by rw [hX];rfl
 have HXE:=np hX;rw [<- hX];clear hX hx hxb HBX
 go_loopw [5,6] (fun so t wr=>∃ i:Nat,i<=n/\t=.int .i64 i/\Hid (aA W1 wr)/\Hid (∃ a c,so=.slice a i c)/\Hid (aj wr W1.heap.size 3 1 so lj (fG i x))) (fun _ t _=>n-(intOf t).toNat)
 case atStart=>exact ⟨0,by omega,rfl,aA.refl _,⟨none,0,rfl⟩,by unfold Hid fG;exact aj.nil _ _ _ _ _⟩
 case round =>
  obtain ⟨i,hi,rfl,HE,HSL,pq⟩:=hrel;obtain ⟨wo,rfl⟩:∃ wo:World,wo=wr:=⟨_,rfl⟩;by_cases hlt:i<n
  ·have g1:=HCX wo HE i (by omega);obtain ⟨y,hy⟩:=oN (x.getD i 0);have hyb:=HXB i;rw [hy] at g1 hyb;have zn:x[i]?=some y:=by
    have:=HXL.out;rw [nu,ns (by omega)] at hy;rw [ns (by omega),<- hy];rfl
   have HN:=np (Z2e zn);have xm:Hid ((fG i x).length=i):=(by unfold Hid;rw [L6_ (by have:=HXL.out;omega)]);have HJ:Hid ((fG i x).length<1000000):=(by unfold Hid;rw [xm.out];omega);have hyr:=Z2E y 10 (by decide);have hszr:=HE.size;have i4:(i:Int)<4:=(by omega);clear hy zn;obtain ⟨z,hz⟩:=oN (y.tmod 10);rw [hz] at hyr HN;go_wp2_with (at_builtin;go_must (refine jY _ rfl _ _ 36 rfl W1.heap.size 3 (.int .i64 0) 1 8 underlying36 jK rfl (by decide) u5 lj (fG i x) z #[.int .i64 z] 3 rfl pq rfl rfl ?e1 (fun _ _=>rfl) HJ (by decide) hszr ?_))
   case e1=>simp [Value.oneCell']
   intro v' w6 sQ rZ sy Co _;have HV:Hid (∃ g cc,v'=.slice g (i+1) cc):=by
    obtain ⟨us,b1,b2,b3,b4⟩:=id sQ;obtain ⟨g,cc,hv,-⟩:=ei b3 (by rw [oJ];simp);refine ⟨some ⟨g,0,none⟩,cc,?_⟩;rw [hv,oJ,xm.out];rfl
   rw [<- HN.out] at sQ;have HB6:=np sQ;have HX6:=np (Below.trans HE sy);clear sQ rZ sy;go_wp2_with fail;go_roundw
   case rel=>exact ⟨i+1,by omega,by go_num,HX6,HV,HB6⟩
   case measure=>simp [intOf];omega
  ·obtain rfl:i=n:=(by omega);obtain ⟨a,c,rfl⟩:=HSL.out;have hO:=pq.ints;rw [L6_ (by have:=HXL.out;omega)] at hO;have HO:=np hO;clear hO pq HSL;go_wp2_with fail;go_ret;rw [<- HXE.out];refine ⟨a,c,rfl,⟨HO.1,?_⟩,HE1.trans HE⟩;rcases HO.out.2 with h | ⟨g,cap,cur,hv,hg,rest⟩
   ·exact .inl h
   ·exact .inr ⟨g,cap,cur,hv,n8 HE1.size hg,rest⟩
theorem t2_ (U:World) (B N:Nat) (T:Nat->Prop) {P:oQ} {C M:oP} {vp vc vm:Value} (hP:aT U (fun k=>T k\/k=B) fun W=>aK W vp P) (hC:aT U (·<N) fun W=>aV W vc C) (hM:aT U (·<N) fun W=>aV W vm M) (I0:B<N) (hT:∀ k,T k->k<B) :
  aT (((U.setCell ⟨B,0,none⟩ vp).setCell ⟨B,1,none⟩ vc).setCell ⟨B,2,none⟩ vm) T fun W=>bZ W (.agg #[vp,vc,vm]) P C M:=by
 have hG:∀ S:Nat->Prop,S B->aH S U (((U.setCell ⟨B,0,none⟩ vp).setCell ⟨B,1,none⟩ vc).setCell ⟨B,2,none⟩ vm):=fun S hS =>
  (((aH.refl _ U).setCell (g:=B) hS 0 _).setCell (g:=B) hS 1 _).setCell (g:=B) hS 2 _
 intro W hW;exact ⟨_,_,_,rfl,hP.grow (hG _ (.inr rfl)) (S':=T) (fun k hk=>.inl (.inl hk)) W hW,hC.grow (hG _ I0) (S':=T) (fun k hk=>.inl (by have:=hT k hk;omega)) W hW,hM.grow (hG _ I0) (S':=T) (fun k hk=>.inl (by have:=hT k hk;omega)) W hW⟩
theorem Z0L (n F:Nat) (P:oQ) (m R A S:oP) (vals:Bool) (T:Nat->Prop) (vp v:Value) (w:World) (hT:∀ k,T k->k<w.heap.size) (hP:aT w T fun W=>aK W vp P) (h:aV w v m) (hE:dM P=0) (hPl:P.length=n) (hD:di n F m R A S) (oS:bg w) (hp:3<w.heap.size) :
  Calls prog 80 #[vp,v,.bool vals] w fun e w'=>∃ u,e=.returned (.tuple #[u,.int .i64 0])/\aT w' T (fun W=>bZ W u P (if vals then A else S) (if vals then S else A))/\aA w w':=by
 have HPC:=np (fun W (hW:aA w W)=>lz P vp W (hP.now.ext hW));rw [hE] at HPC;have HOF:=np (fun W (hW:aA w W)=>nR n F m R A S v W (h.ext hW) hD (oS.ext hW) (n7 hp hW.size));have HSA:=np (fun W (hW:aA w W) u (hu:bj W u n R)=>L7_ n F R A S u W hu hD.chk hD.n1 hD.n4 hD.kR hD.kA hD.lA hD.lS hD.bS (oS.ext hW) (n7 hp hW.size));have HAN:=np (fun W (hW:aA w W) u (hu:bj W u n R)=>z9_ n F R A S u W hu hD.chk hD.n1 hD.n4 hD.kR hD.lA hD.bA (oS.ext hW) (n7 hp hW.size));have hP2:=hP.now;obtain ⟨ap,cp,rfl,p1,p2,-,-,-⟩:=hP2.open;obtain ⟨a,c,rfl,-⟩:=aP.open h;rw [hPl] at HPC hP |-;have HP:=np hP;have HTS:=np hT;clear hP hP2 h hE hPl hD oS hp p1 p2 hT
 go_enter func80,ntmps80
 obtain ⟨W1,oZ,hE1,hs1,hb1⟩:=fv w (.slice none 0 0) (.slice none 0 0) (.slice none 0 0);have HB1:=np hb1;have HE1:=np hE1;have HS1:=np hs1;have HP1:=np (HP.grow (hE1.grownS T) (S':=fun k=>T k\/w.heap.size<=k) (fun k hk=>hk));clear hE1 hs1 hb1;go_wp2_with fail;refine q_ (HPC _ HE1) ?_;clear HPC;go_wp2_with fail;refine (HOF _ HE1).mono ?_;rintro e w1 ⟨u1,rfl,hu1,wK⟩;obtain ⟨a1,c1,rfl,-⟩:=aR.open hu1.now;have HE2:=np (HE1.trans wK);have HU1:=np hu1.now;have HB2:=np (aF HB1 wK);have HP2:=np (HP1.ext wK);have HZ1:=np wK.size;clear wK hu1 HOF HB1 HE1 HP1 oZ;obtain ⟨V1,wF,ov,hs1,hb1⟩:=cL w1 (.int .i64 0) (.slice none 0 0);obtain ⟨r0,r1,rf⟩:=bG hb1;have f0:=rf 0;have f1:=rf 1;have HL1:=np (eE hb1 (.int .i64 n) (.slice a1 R.length c1));have HXU:=np (db ov (n9 _) (.int .i64 n) (.slice a1 R.length c1));clear ov hs1 hb1 rf;obtain ⟨U1,sO⟩:=oN ((V1.setCell ⟨w1.heap.size,0,none⟩ (.int .i64 n)).setCell ⟨w1.heap.size,1,none⟩ (.slice a1 R.length c1));rw [sO] at HL1 HXU;obtain ⟨s0,s1,-⟩:=bG HL1;have HEU:=np (HE2.trans HXU);have HRU:=np (HU1.ext HXU);have HB3:=np (aF HB2 HXU);have HP3:=np (HP2.ext HXU);have HZ2:=np (n8 HZ1 HXU.size);go_wp2_with fail;clear sO wF r0 r1 f0 f1 HE2 HU1 HXU HB2 HP2;refine (HSA _ HEU _ ⟨_,rfl,HRU⟩).mono ?_;rintro e w2 ⟨u2,rfl,hu2,hE2⟩;obtain ⟨a2,c2,rfl,-⟩:=aR.open hu2.now;have HE4:=np (HEU.trans hE2);have HU2:=np (hu2.grow (aH.refl _ _) (S':=fun k=>k<W1.heap.size\/w2.heap.size<=k) fun k hk=>hk.elim (fun h=>.inl (n7 h HZ2)) .inr);have HL2:=np (aF HL1 hE2);have HB4:=np (aF HB3 hE2);have HP4:=np (HP3.ext hE2);have HR2:=np (HRU.ext hE2);have HZ3:=np (n8 HZ2 hE2.size);clear hE2 hu2 HSA HL1 HRU HEU HB3 HP3 s0 s1;obtain ⟨V2,zJ,qF,hs2,oY⟩:=cL w2 (.int .i64 0) (.slice none 0 0);obtain ⟨r0,r1,rf⟩:=bG oY;have f0:=rf 0;have f1:=rf 1;have HM1:=np (eE oY (.int .i64 n) (.slice a2 S.length c2));have HXU:=np (db qF (n9 _) (.int .i64 n) (.slice a2 S.length c2));clear qF hs2 oY rf;obtain ⟨U2,tP⟩:=oN ((V2.setCell ⟨w2.heap.size,0,none⟩ (.int .i64 n)).setCell ⟨w2.heap.size,1,none⟩ (.slice a2 S.length c2));rw [tP] at HM1 HXU;have HL3:=np (aF HL2 HXU);have HB5:=np (aF HB4 HXU);have HP5:=np (HP4.ext HXU);obtain ⟨s0,s1,-⟩:=bG HL3;have HEU:=np (HE4.trans HXU);have HRU:=np (HR2.ext HXU);have HSU:=np (HU2.ext HXU);have HZ4:=np (n8 HZ3 HXU.size);go_wp2_with fail;clear tP zJ r0 r1 f0 f1 HE4 HU2 HXU HL2 HR2 HB4 HP4;refine (HAN _ HEU _ ⟨_,rfl,HRU⟩).mono ?_;rintro e w3 ⟨u3,rfl,vS,oT⟩;obtain ⟨a3,c3,rfl,-⟩:=aR.open vS.now
 have HE6:=np (HEU.trans oT);have HU3:=np (vS.grow (aH.refl _ _) (S':=fun k=>k<W1.heap.size\/k=w2.heap.size\/k=w3.heap.size) fun k hk=>by
  rcases hk with h | rfl | rfl;·exact .inl (n7 h HZ4)
  ·exact .inl (c_ HM1)
  ·exact .inr (n9 _))
 have HM2:=np (aF HM1 oT);have HB6:=np (aF HB5 oT);have HP6:=np (HP5.ext oT);have HS4:=np (HSU.ext oT);have HZ5:=np (n8 HZ4 oT.size);have zi:Hid (w2.heap.size<w3.heap.size):=n7 (c_ HM1) oT.size;clear oT vS HAN HM1 HRU HEU HSU HL3 HB5 HP5 s0 s1;obtain ⟨V3,Bh,s6,hs3,ot⟩:=cL w3 (.int .i64 0) (.slice none 0 0);obtain ⟨r0,r1,rf⟩:=bG ot;have f0:=rf 0;have f1:=rf 1;have HN1:=np (eE ot (.int .i64 n) (.slice a3 A.length c3));have HXU:=np (db s6 (n9 _) (.int .i64 n) (.slice a3 A.length c3));clear s6 hs3 ot rf;obtain ⟨U3,vJ⟩:=oN ((V3.setCell ⟨w3.heap.size,0,none⟩ (.int .i64 n)).setCell ⟨w3.heap.size,1,none⟩ (.slice a3 A.length c3));rw [vJ] at HN1 HXU;have HM3:=np (aF HM2 HXU);have HB7:=np (aF HB6 HXU);have HP7:=np (HP6.ext HXU);obtain ⟨q0,q1,qf⟩:=bG HN1;obtain ⟨s0,s1,sf⟩:=bG HM3;obtain ⟨b0,b1,b2,bf⟩:=bc HB7;have k0:=qf 0;have k1:=qf 1;have l0:=sf 0;have l1:=sf 1;have m0:=bf 0;have m1:=bf 1;have m2:=bf 2;have HEU:=np (HE6.trans HXU)
 have HSU:=np ((HS4.ext HXU).low (S':=fun k=>k<W1.heap.size\/k=w2.heap.size\/k=w3.heap.size) fun k hk=>by
  have:=zi.out;rcases hk with h | rfl | rfl;·exact .inl h
  ·exact .inr (n9 _)
  ·exact .inr (by omega))
 have HAU:=np (HU3.ext HXU);have HPT:Hid (∀ k,T k\/k=w.heap.size->T k\/w.heap.size<=k):=fun k hk=>hk.elim .inl fun e=>.inr (by omega);clear qf sf bf HM2 HB6 HP6 HS4 HU3;cases vals with
 | false =>
  go_wp2_with fail;clear vJ Bh r0 r1 f0 f1;have hkA:=iQ HB7 (.slice ap n cp) (.slice a2 S.length c2) (.slice a3 A.length c3);refine bodyPost_ret (ir (by rfl) _ _ w.heap.size 34 #[.slice ap n cp,.slice a2 S.length c2,.slice a3 A.length c3] (0,0) _ (by rfl) hkA underlying34 (by rfl) (by kernel_rfl)) (by rfl) ?_;exact ⟨_,rfl,t2_ U3 w.heap.size W1.heap.size T (HP7.low HPT) (HSU.low fun k hk=>.inl hk) (HAU.low fun k hk=>.inl hk) (by have:=HS1.out;omega) HTS,iB HEU (n9 _) _ _ _⟩
 | true =>
  have n1:w2.heap.size≠w3.heap.size:=by have:=zi.out;omega
  have n2:w3.heap.size≠w2.heap.size:=by have:=zi.out;omega
  have n3:w.heap.size≠w2.heap.size:=by have:=HZ3.out;have:=HS1.out;omega
  have n4:w.heap.size≠w3.heap.size:=by have:=HZ5.out;have:=HS1.out;omega
  have n5:w2.heap.size≠w.heap.size:=fun e=>n3 e.symm;have n6:w3.heap.size≠w.heap.size:=fun e=>n4 e.symm;go_wp2_with fail;clear vJ Bh r0 r1 f0 f1;obtain ⟨U4,zK⟩:=oN ((((U3.setCell ⟨w2.heap.size,0,none⟩ (.int .i64 n)).setCell ⟨w2.heap.size,1,none⟩ (.slice a3 A.length c3)).setCell ⟨w3.heap.size,0,none⟩ (.int .i64 n)).setCell ⟨w3.heap.size,1,none⟩ (.slice a2 S.length c2));have DJ:U4.heap[w.heap.size]?=some (.cells #[.slice none 0 0,.slice none 0 0,.slice none 0 0] 34 (0,0)):=by
   rw [<- zK,j4 _ _ _ _ _ n4,j4 _ _ _ _ _ n4,j4 _ _ _ _ _ n3,j4 _ _ _ _ _ n3];exact HB7
  have hG:∀ Q:Nat->Prop,Q w2.heap.size->Q w3.heap.size->aH Q U3 U4:=fun Q q2 q3=>by
   rw [<- zK];exact ((((aH.refl _ U3).setCell (g:=w2.heap.size) q2 0 _).setCell (g:=w2.heap.size) q2 1 _).setCell (g:=w3.heap.size) q3 0 _).setCell (g:=w3.heap.size) q3 1 _
  have wE:aA w U4:=by
   rw [<- zK];exact db (db HEU (by have:=HZ3.out;have:=HS1.out;omega) _ _) (by have:=HZ5.out;have:=HS1.out;omega) _ _
  have hz3:=HZ3.out;have hz5:=HZ5.out;have hs1:=HS1.out;have hP4:=(HP7.grow (hG _ (.inr (by omega)) (.inr (by omega))) (S':=fun k=>T k\/w.heap.size<=k) (fun k hk=>.inl hk)).low HPT;have hS4:=(HSU.grow (hG _ (.inr (.inl rfl)) (.inr (.inr rfl))) (S':=(·<W1.heap.size)) (fun k hk=>.inl (.inl hk)));have hA4:=(HAU.grow (hG _ (.inr (.inl rfl)) (.inr (.inr rfl))) (S':=(·<W1.heap.size)) (fun k hk=>.inl (.inl hk)));have hkA:=iQ DJ (.slice ap n cp) (.slice a3 A.length c3) (.slice a2 S.length c2);rw [zK];refine bodyPost_ret (ir (by rfl) _ _ w.heap.size 34 #[.slice ap n cp,.slice a3 A.length c3,.slice a2 S.length c2] (0,0) _ (by rfl) hkA underlying34 (by rfl) (by kernel_rfl)) (by rfl) ?_;exact ⟨_,rfl,t2_ U4 w.heap.size W1.heap.size T hP4 hA4 hS4 (by omega) HTS,iB wE (n9 _) _ _ _⟩
section
variable {P:Program} {ops:Array Oper} {Q:Exit->Act->World->Prop} {md:Region.Mode} {S:World->Prop} {z:Nat}
end
def fe (n i:Nat) (xss:oP):oP:=(xss.take i).map (fG n)
theorem o6_ {n:Nat} {xss:oP} (hn:n<=4) (h:∀ x∈xss,x.length=4) (i:Nat):(fe n i xss).length<=i/\∀ r∈fe n i xss,r.length=n/\aN 9 r:=by
 refine ⟨by unfold fe;rw [List.length_map,ny];omega,fun r hr=>?_⟩;obtain ⟨x,hx,rfl⟩:=List.mem_map.1 hr;refine ⟨L6_ (by rw [h x (List.mem_of_mem_take hx)];exact hn),fun y hy=>?_⟩;have:=Z2d y hy;omega
structure gW (n F:Nat) (P:oQ) (m C M:oP) (vals:Bool):Prop where
 right:iT n F P C M
 left:iT n F P M C
 hC:∃ ps,aW n C ps
 hM:∃ ps,aW n M ps
 spC:∀ v,Sp n (aG 0 C) v↔if vals then cE n m v else fw n m v
 spM:∀ v,Sp n (aG 0 M) v↔if vals then fw n m v else cE n m v
 rank:M.length+C.length=n
 lC:C.length<=4
 lM:M.length<=4
 bC:∀ x∈C,aN 629856 x/\x.length=n
 bM:∀ x∈M,aN 629856 x/\x.length=n
theorem Z5b {n:Nat} {m B:oP} (hs:bP n (aG 0 m) (aG 0 B)) (v:oQ):fw n m v↔fw n B v :=
 ⟨fun ⟨h,D,h1,h2⟩=>⟨h,D,h1,(hs.iff _).1 h2⟩,fun ⟨h,D,h1,h2⟩=>⟨h,D,h1,(hs.iff _).2 h2⟩⟩
theorem Z4b {n:Nat} {C:oP} {ps:Nat->Nat} (hn:n<=4) (h:aW n C ps) (hl:C.length<=4) (hb:∀ x∈C,aN 629856 x/\x.length=n):dA n C=0/\bz n C=0:=by
 have Cv:dA n C=0:=by
  unfold dA;rw [if_neg (by omega),if_neg (by omega)];exact z6_ fun r hr=>⟨w7_ (by have:=(hb r hr).2;omega) ((hb r hr).1.mono (by decide)),(hb r hr).2⟩
 exact ⟨Cv,by unfold bz;rw [if_pos Cv,if_pos (D9_ h)]⟩
theorem r4_ {n:Nat} {C:oP} {ps:Nat->Nat} (hn:n<=4) (h:aW n C ps) (hl:C.length<=4) (hb:∀ x∈C,aN 629856 x/\x.length=n):∃ F,dU n F n C=some C:=by
 obtain ⟨F',R',ps',g1,g2,g3,-,g5⟩:=nB n 4 6 C (fun x hx=>(hb x hx).2) (fun x hx=>(hb x hx).1.mono (by decide)) (.inl hl) (by decide) (by decide);exact ⟨F',by rw [g1,kO g3 h g5.symm]⟩
theorem Z25 {n:Nat} {m:oP} (o4:1<=n) (hn:n<=4) (hm:m.length<=4) (hw:∀ x∈m,x.length=n) (h9:∀ x∈m,aN 9 x) (P:oQ) (hP:dM P=0) (hPl:P.length=n) :
  ∃ F R A S,di n F m R A S/\di n F S S A S/\di n F A A S A/\gW n F P m S A false/\gW n F P m A S true:=by
 obtain ⟨F1,R,ps,f1,f2,f3,f4,f5,f6,-⟩:=Z24 n m (by omega) hm hw h9;obtain ⟨F2,A,S,d⟩:=Z23 hn hw h9 f2 f5;obtain ⟨qa,hA⟩:=d.fA;obtain ⟨qs,hS⟩:=d.fS;have lA:=I1_ hA;have lS:=I1_ hS;have cA:=Z4b hn hA (by omega) d.bA;have cS:=Z4b hn hS (by omega) d.bS;obtain ⟨F3,K3⟩:=r4_ hn hS (by omega) d.bS;obtain ⟨F4,xi⟩:=r4_ hn hA (by omega) d.bA;have zI:ae n m:=fun i hi=>hw _ (eZ hi);have EV:dA n m=0:=by
  unfold dA;rw [if_neg (by omega),if_neg (by omega)];exact z6_ fun r hr=>⟨w7_ (by have:=hw r hr;omega) ((h9 r hr).mono (by decide)),hw r hr⟩
 have kR:=ll (F':=F1+F2+F3+F4) (by omega) d.kR;have kA:=ll (F':=F1+F2+F3+F4) (by omega) d.kA;have kS:=ll (F':=F1+F2+F3+F4) (by omega) d.kS;have gA:∀ x∈A,aN 1000000000 x/\x.length=n:=fun x hx=>⟨(d.bA x hx).1.mono (by decide),(d.bA x hx).2⟩
 have gS:∀ x∈S,aN 1000000000 x/\x.length=n:=fun x hx=>⟨(d.bS x hx).1.mono (by decide),(d.bS x hx).2⟩
 have gR:∀ x∈R,aN 1000000000 x/\x.length=n:=fun x hx=>⟨(f4 x hx).1.mono (by decide),(f4 x hx).2⟩
 have hn6:n<=6:=by omega
 have rS:iT n (F1+F2+F3+F4) P S A:=⟨o4,hn6,hP,hPl,cS.2,kS,kA,by omega,by omega,gS,gA⟩;have rA:iT n (F1+F2+F3+F4) P A S:=⟨o4,hn6,hP,hPl,cA.2,kA,kS,by omega,by omega,gA,gS⟩;have sS:∀ v,Sp n (aG 0 S) v↔fw n m v:=fun v=>(d.spS v).trans (Z5b f5 v).symm;have sA:∀ v,Sp n (aG 0 A) v↔cE n m v:=fun v=>(d.spA v).trans (Z0H zI f2.1 f5 v).symm
 refine ⟨F1+F2+F3+F4,R,A,S,⟨o4,hn6,EV,kK (by omega) f1,⟨by omega,gR⟩,f6,kR,kA,by omega,by omega,gA,gS⟩,
  ⟨o4,hn6,cS.1,kK (by omega) K3,⟨by omega,gS⟩,cS.2,kS,kA,by omega,by omega,gA,gS⟩,
  ⟨o4,hn6,cA.1,kK (by omega) xi,⟨by omega,gA⟩,cA.2,kA,kS,by omega,by omega,gS,gA⟩,
  ⟨rS,rA,⟨qs,hS⟩,⟨qa,hA⟩,sS,sA,d.rS,by omega,by omega,d.bS,d.bA⟩,⟨rA,rS,⟨qa,hA⟩,⟨qs,hS⟩,sA,sS,by have:=d.rS;omega,by omega,by omega,d.bA,d.bS⟩⟩
theorem C8_ (c:Int) (sx:0<=c) (pc:c<=255) (n F:Nat) (P:oQ) (hP:P=fc (c%10).toNat) (hn:P.length=n) (xss:oP) (Ac:xss.length<=3) (vals:Bool) (v:Value) (w:World) (h:iR w v xss)
  (R A S:oP) (hD:di n F (fe n xss.length xss) R A S) (oS:bg w) (hp:3<w.heap.size) :
  Calls prog 16 #[.agg #[.int .u8 c,v,.bool vals]] w fun e w'=>∃ u,e=.returned u/\bZ w' u P (if vals then A else S) (if vals then S else A)/\aA w w':=by
 have HPR:=np (fun W=>p9_ c sx pc W);rw [<- hP,hn] at HPR;have hpe:=(X3_ (c%10).toNat).1;rw [<- hP] at hpe;have hn4:n<=4:=by have:=(X3_ (c%10).toNat).2.2;rw [<- hP,hn] at this;exact this
 have HIN:=np (fun W vp (pZ:aK W vp P) (x:oQ) (h4:x.length=4) (hb:∀ a∈x,-128<=a/\a<=127)=>F3_ n P x vp W pZ hn hn4 h4 hb);have HBD:=np (fun W (hW:aA w W) T vp v (hT:∀ k,T k->k<W.heap.size) (hP:aT W T fun W=>aK W vp P) (h:aV W v (fe n xss.length xss))=>Z0L n F P (fe n xss.length xss) R A S vals T vp v W hT hP h hpe hn hD (oS.ext hW) (n7 hp hW.size));obtain ⟨a,cp,rfl,pM,r9,hxl,hx4⟩:=aR.open h;have HX:=np hx4;unfold maxLen at r9;obtain ⟨C,hC⟩:=oN ((if vals=true then A else S));obtain ⟨M,hM⟩:=oN ((if vals=true then S else A));rw [hC,hM] at HBD |-;clear hx4 h oS hp hD hpe hP hC hM
 go_enter func16,ntmps16
 go_wp2_with fail;obtain ⟨W1,oZ⟩:=oN (w.alloc (.cells #[.int .u8 c,.slice a xss.length cp,.bool vals] 24));have pD:W1.heap[w.heap.size]?=some (.cells #[.int .u8 c,.slice a xss.length cp,.bool vals] 24 (0,0)):=by rw [<- oZ];exact dE _ _ _
 have hE1:aA w W1:=by rw [<- oZ];exact aA.alloc _ _
 have hs1:W1.heap.size=w.heap.size+1:=by rw [<- oZ];simp
 rw [oZ];obtain ⟨W2,pg,hE2,hs2,oY⟩:=fv W1 (.slice none 0 0) (.slice none 0 0) (.slice none 0 0);rw [pg];rw [hs1] at oY;have HB0:=np (aF pD hE2);have HB2:=np oY;have HE2:=np (hE1.trans hE2);have HS2:Hid (W2.heap.size=w.heap.size+2):=by unfold Hid;omega
 clear oZ pg pD hE1 hs1 hE2 hs2 oY;have p0:=ag HB0 0;have p1:=ag HB0 1;have p2:=ag HB0 2;simp only [oF,oE,oD] at p0 p1 p2;go_wp2_with fail;refine (HPR _).mono ?_;rintro e w3 ⟨ap,cpp,rfl,rG,oT⟩;have HE3:=np (HE2.trans oT);have HB03:=np (aF HB0 oT);have HB23:=np (aF HB2 oT);have HPS:=np (rG.low (S':=(·<w.heap.size+2)) fun k hk=>by have:=HS2.out;omega);have HZ3:Hid (w.heap.size+2<=w3.heap.size):=by unfold Hid;have:=oT.size;have:=HS2.out;omega
 clear oT rG HPR p0 p1 p2;go_wp2_with fail
 go_loopw [4,5] (fun so t wr=>∃ (i:Nat) (Q:Nat->Prop),i<=xss.length/\t=.int .i64 i/\Hid (aA w3 wr)/\Hid (iU Q w3.heap.size wr)/\Hid (∃ a c,so=.slice a i c)/\Hid (bY wr Q w3.heap.size 36 1 so l9 (fe n i xss))) (fun _ t _=>xss.length-(intOf t).toNat)
 case atStart=>exact ⟨0,fun _=>False,by omega,rfl,aA.refl _,fun b hb=>hb.elim,⟨none,0,rfl⟩,bY.nil _ _ _ _ _ _⟩
 case round =>
  obtain ⟨i,Q,hi,rfl,HE,HOK,HSL,pq⟩:=hrel;obtain ⟨wo,rfl⟩:∃ wo:World,wo=wr:=⟨_,rfl⟩;have HB0o:=np (aF HB03 HE);have p0:=ag HB0o 0;have p1:=ag HB0o 1;have p2:=ag HB0o 2;simp only [oF,oE,oD] at p0 p1 p2;by_cases hlt:i<xss.length
  ·have zz:i<3:=(by omega);obtain ⟨b,off,rfl,hb,hcell⟩:=HX (by omega) (by intro e;rw [e] at hlt;simp at hlt);obtain ⟨x,hx⟩:∃ x,xss[i]?=some x:=⟨xss[i],ns hlt⟩;obtain ⟨u,hu,⟨rfl,hx4,hxb⟩,hc⟩:=hcell i x hx;obtain ⟨x0,x1,x2,x3,rfl⟩:∃ a b c d,x=[a,b,c,d]:=by
    match x,hx4 with
    | [a,b,c,d],_=>exact ⟨a,b,c,d,rfl⟩
   have g0:=(HE3.trans HE).cell (hc 0 (by omega));have g1:=(HE3.trans HE).cell (hc 1 (by omega));have g2:=(HE3.trans HE).cell (hc 2 (by omega));have g3:=(HE3.trans HE).cell (hc 3 (by omega));rw [<- Nat.add_assoc] at g0 g1 g2 g3;rw [Nat.add_zero] at g0;have HIV:=np (HIN wo _ (HPS.now.ext HE) [x0,x1,x2,x3] rfl hxb);have HN:Hid (fe n (i+1) xss=fe n i xss++[fG n [x0,x1,x2,x3]]):=(by unfold Hid fe;rw [nz,hx,List.map_append];rfl);have xm:Hid ((fe n i xss).length=i):=(by unfold Hid fe;rw [List.length_map,ny];omega);have HJ:Hid ((fe n i xss).length<1000000):=(by unfold Hid;rw [xm.out];omega);have HRL:Hid ((fG n [x0,x1,x2,x3]).length=n):=L6_ (by simpa using hn4);clear hcell hc hx hu hxb;go_wp2_with fail;refine HIV.mono ?_;rintro e w5 ⟨ar,cr,rfl,hO,oX⟩;have HSF:Hid (aT w5 Q fun W=>l9 W [.slice ar n cr] (fG n [x0,x1,x2,x3])):=(aT.owns hO (fun k hk hs=>by have:=(hO.lt k hk).1;have:=(HOK k hs).2;omega)).mono (fun W h=>⟨_,rfl,aK.of_owns (by rw [HRL.out];exact h) (fun y hy=>by have:=Z2d y hy;omega)⟩);have HB5:=np (pq.ext oX);have HOK5:=np (HOK.grow oX.size);have HE5:=np (HE.trans oX);have hs5:=HE5.size;clear hO oX HIV pq HOK p0 p1 p2 g0 g1 g2 g3;go_wp2_with (at_builtin;go_must (refine Z7_ _ rfl _ _ 32 rfl Q w3.heap.size 36 (.slice none 0 0) 1 24 underlying32 Z1q rfl (by decide) u4 l9 (fe n i xss) (fG n [x0,x1,x2,x3]) #[.slice ar n cr] 36 rfl HB5 _ rfl rfl rfl ?a1 HSF HJ (by decide) hs5 w3.heap.size (n9 _) HOK5 ?_))
   case a1=>simp [Value.oneCell']
   intro v' w6 Q6 A0 Ff Fe sQ rZ sy Co yn;have HV:Hid (∃ a c,v'=.slice a (i+1) c):=by
    obtain ⟨gv,cv,hv,-⟩:=sQ.shape (by simp);refine ⟨some ⟨gv,0,none⟩,cv,?_⟩;rw [hv,oJ,xm.out];rfl
   rw [<- HN.out] at sQ;have HB6:=np sQ;have HOK6:=np A0;have HX6:=np (Below.trans HE5 sy);clear A0 Ff Fe sQ rZ sy Co yn;go_wp2_with fail;go_roundw
   case rel=>exact ⟨i+1,Q6,by omega,by go_num,HX6,HOK6,HV,HB6⟩
   case measure=>simp [intOf];omega
  ·obtain rfl:i=xss.length:=(by omega);obtain ⟨sa,cs,rfl⟩:=HSL.out;have HRS:Hid (aV wo (.slice sa xss.length cs) (fe n xss.length xss)):=pq.list;have HE4:=np (HE3.trans HE);have HB2o:=np (aF HB23 HE);have HBI:=np (HBD wo HE4 (·<w.heap.size+2) _ _ (fun k hk=>by have:=HZ3.out;have:=HE.size;omega) (HPS.ext HE) HRS);clear HIN pq HOK HBD HSL;go_wp2_with fail;refine HBI.mono ?_;rintro e w6 ⟨u6,rfl,Dt,oU⟩;obtain ⟨JT,JV,JU,rfl,o1,o2,o3⟩:=Dt.now;obtain ⟨CJ,AZ,CG,rfl⟩:∃ a l c,JT=.slice a l c:=(by obtain ⟨a,c,h,-⟩:=o1.open;exact ⟨a,_,c,h⟩);obtain ⟨CL,Ab,CI,rfl⟩:∃ a l c,JV=.slice a l c:=(by obtain ⟨a,c,h,-⟩:=aP.open o2;exact ⟨a,_,c,h⟩);obtain ⟨CK,Aa,CH,rfl⟩:∃ a l c,JU=.slice a l c:=(by obtain ⟨a,c,h,-⟩:=aP.open o3;exact ⟨a,_,c,h⟩);have HE6:=np (HE4.trans oU);have HB6:=np (aF HB2o oU);have HU6:=np Dt;clear oU Dt HBI HB2o p0 p1 p2 o1 o2 o3;obtain ⟨V1,wF,ov,hs1,hb1⟩:=fv w6 (.slice none 0 0) (.slice none 0 0) (.slice none 0 0);obtain ⟨r0,r1,r2,rf⟩:=bc hb1;have f0:=rf 0;have f1:=rf 1;have f2:=rf 2;have HB7:=np (iQ hb1 (.slice CJ AZ CG) (.slice CL Ab CI) (.slice CK Aa CH));have HXU:=np (iB ov (n9 _) (.slice CJ AZ CG) (.slice CL Ab CI) (.slice CK Aa CH));clear ov hs1 hb1 rf;obtain ⟨U1,sO⟩:=oN (((V1.setCell ⟨w6.heap.size,0,none⟩ (.slice CJ AZ CG)).setCell ⟨w6.heap.size,1,none⟩ (.slice CL Ab CI)).setCell ⟨w6.heap.size,2,none⟩ (.slice CK Aa CH));rw [sO] at HB7 HXU;obtain ⟨s0,s1,s2,-⟩:=bc HB7;have HB8:=np (aF HB6 HXU);obtain ⟨t0,t1,t2,tf⟩:=bc HB8;have g0:=tf 0;have g1:=tf 1;have g2:=tf 2;have HU7:=np (HU6.ext HXU);have HE7:=np (HE6.trans HXU);clear tf;go_wp2_with fail;clear sO wF r0 r1 r2 f0 f1 f2;have hkA:=iQ HB8 (.slice CJ AZ CG) (.slice CL Ab CI) (.slice CK Aa CH);refine bodyPost_ret (results_cell_row (by rfl) _ _ (w.heap.size+1) 34 #[.slice CJ AZ CG,.slice CL Ab CI,.slice CK Aa CH] (0,0) _ (by rfl) hkA underlying34 (by rfl) (by kernel_rfl)) (by rfl) ?_;have hG:∀ (x y z:Value),aH (·<w.heap.size+2) U1 (((U1.setCell ⟨w.heap.size+1,0,none⟩ x).setCell ⟨w.heap.size+1,1,none⟩ y).setCell ⟨w.heap.size+1,2,none⟩ z):=fun x y z=>by
    have hlt:w.heap.size+1<w.heap.size+2:=(by omega);exact (((aH.refl _ U1).setCell (g:=w.heap.size+1) hlt 0 x).setCell (g:=w.heap.size+1) hlt 1 y).setCell (g:=w.heap.size+1) hlt 2 z
   exact ⟨_,rfl,HU7 _ (hG _ _ _),iB HE7 (Nat.le_succ _) _ _ _⟩
theorem kV (w:World) (S:Nat->Prop) (hS:∀ b,S b->b<w.heap.size) (xs:oQ) (hb:∀ x∈xs,-9223372036854775808<=x/\x<=9223372036854775807) (hl:xs.length<=100) (C:Array Value) (hC:C=(xs.map (Value.int .i64)).toArray) (m:Nat) (hm:m=xs.length) :
  ∃ W,w.alloc (.cells C 3)=W/\aA w W/\w.heap.size<W.heap.size/\aT W S fun W=>aK W (.slice (some ⟨w.heap.size,0,none⟩) m m) xs:=by
 subst hC;subst hm;exact ⟨_,rfl,aA.alloc _ _,by simp,aT.intsLit hS rfl xs _ _ rfl (by unfold maxLen;omega) hb _ rfl⟩
theorem H7_ (w:World) (S:Nat->Prop) (hS:∀ b,S b->b<w.heap.size) (u:Value) (x:oQ) (hu:aT w S fun W=>aK W u x) :
  ∃ W,w.alloc (.cells #[u] 36)=W/\aA w W/\w.heap.size<W.heap.size/\aT W S fun W=>aV W (.slice (some ⟨w.heap.size,0,none⟩) 1 1) [x] :=
 ⟨_,rfl,aA.alloc _ _,by simp,aT.lit hS rfl [u] [x] _ 1 rfl rfl (by simp [maxLen]) _ rfl (fun j a y ha hy=>by
  match j with
  | 0=>simp at ha hy;subst ha;subst hy;exact hu
  | j+1=>simp at ha)⟩
theorem Z2f (w:World) (S:Nat->Prop) (hS:∀ b,S b->b<w.heap.size) (u v:Value) (x y:oQ) (hu:aT w S fun W=>aK W u x) (hv:aT w S fun W=>aK W v y) :
  ∃ W,w.alloc (.cells #[u,v] 36)=W/\aA w W/\w.heap.size<W.heap.size/\aT W S fun W=>aV W (.slice (some ⟨w.heap.size,0,none⟩) 2 2) [x,y] :=
 ⟨_,rfl,aA.alloc _ _,by simp,aT.lit hS rfl [u,v] [x,y] _ 2 rfl rfl (by simp [maxLen]) _ rfl (fun j a z ha hz=>by
  match j with
  | 0=>simp at ha hz;subst ha;subst hz;exact hu
  | 1=>simp at ha hz;subst ha;subst hz;exact hv
  | j+2=>simp at ha)⟩
abbrev mP:List Int:=[2,3,5]
abbrev mC:oP:=[[4,-4,1]]
abbrev mM:oP:=[[1,0,-4],[0,1,4]]
theorem Z6n:∀ x∈mC,aN 1000000000 x/\x.length=3:=by unfold aN;decide +kernel
theorem Z6o:∀ x∈mM,aN 1000000000 x/\x.length=3:=by unfold aN;decide +kernel
theorem Z6x:∀ x∈([[8,-8,2]]:oP),aN 1000000000 x/\x.length=3:=by unfold aN;decide +kernel
theorem mD3:di 3 20 [[-8,8,-2]] [[8,-8,2]] mM mC:=⟨by decide,by decide,by decide +kernel,by decide +kernel,⟨by decide,Z6x⟩,by decide +kernel,by decide +kernel,by decide +kernel,by decide,by decide,Z6o,Z6n⟩
theorem mPr:dM mP=0:=by decide +kernel
theorem mR:iT 3 20 mP mC mM:=⟨by decide,by decide,mPr,rfl,by decide +kernel,by decide +kernel,by decide +kernel,by decide,by decide,Z6n,Z6o⟩
theorem D7_ (c:Int) (vals:Bool) (xss:oP) (v:Value) (w:World) (h:iR w v xss) :
  oL 15 #[.agg #[.int .u8 c,v,.bool vals]] w (.bool (decide (xss.length<=3))):=by
 obtain ⟨a,cp,rfl,pM,r9,-⟩:=aR.open h;clear h;obtain ⟨n,hn⟩:=oN xss.length;rw [hn] at pM |-;unfold maxLen at r9;clear hn
 go_enter func15,ntmps15
 obtain ⟨W1,oZ⟩:=oN (w.alloc (.cells #[.int .u8 c,.slice a n cp,.bool vals] 24));have pD:W1.heap[w.heap.size]?=some (.cells #[.int .u8 c,.slice a n cp,.bool vals] 24 (0,0)):=by rw [<- oZ];exact dE _ _ _
 have HE1:Hid (aA w W1):=by unfold Hid;rw [<- oZ];exact aA.alloc _ _
 have p1:=ag pD 1;simp only [oF,oE,oD] at p1;clear pD;by_cases h3:n<=3
 ·have LG:(n:Int)<=3:=by omega
  go_wp2_with fail;go_ret;exact ⟨by simp [h3],HE1⟩
 ·have LG:¬ (n:Int)<=3:=by omega
  go_wp2_with fail;go_ret;exact ⟨by simp [h3],HE1⟩
theorem C3_ {α:Type} {R:World->List Value->α->Prop} {w w':World} {v:Value} {X:List α} {B:Nat} {C:Array Value} {T:TypeId} (h:aR 1 R w v X) (hB:w.heap[B]?=some (.cells C T (0,0)))
  (tb:∀ x (u:Value),x∈X->R w [u] x->∀ (i:Nat),C[i]?≠some u) (hR:∀ x l,x∈X->R w l x->R w' l x) (hg:w.grownBy w' (some B)):aR 1 R w' v X:=by
 obtain ⟨us,h1,h2,⟨a,cap,rfl,q1,q2,q3,q4⟩,h4⟩:=h;have hmem:∀ j x,X[j]?=some x->x∈X:=fun j x hx=>nw hx;refine ⟨us,h1,h2,⟨a,cap,rfl,q1,q2,q3,fun hne=>?_⟩,fun j u x hu hx=>hR x u (hmem j x hx) (h4 j u x hu hx)⟩;obtain ⟨b,off,ha,hb,hc⟩:=q4 hne;refine ⟨b,off,ha,n7 hb hg.size,fun j u hu=>?_⟩;have hcell:=hc j u hu;have hs:∃ x,x∈X/\R w [u] x:=by
  obtain ⟨l,hl,G5⟩:=List.mem_flatten.1 (nw hu);obtain ⟨i,hi⟩:=List.getElem?_of_mem hl;obtain ⟨x,hx⟩:∃ x,X[i]?=some x:=⟨_,ns (by rw [<- h1];exact (nt.1 hi).1)⟩;have h5:=h4 i l x hi hx;obtain ⟨u',rfl⟩:=List.length_eq_one_iff.1 (h2 l hl);rw [List.mem_singleton] at G5;subst G5;exact ⟨x,hmem i x hx,h5⟩
 obtain ⟨x,hx,xf⟩:=hs;have Kg:b≠B:=by
  rintro rfl;rw [ag hB] at hcell;exact tb x u hx xf _ hcell
 rw [<- hcell];unfold World.cell?;rw [hg.block b hb (fun e=>by cases e;exact Kg rfl)]
abbrev lW:Array Value:=#[.slice none 0 0,.slice none 0 0,.slice none 0 0]
theorem g9_ {i:Nat} {u:Value} (h:lW[i]?=some u):u=.slice none 0 0:=by
 match i with
 | 0=>simpa using h.symm
 | 1=>simpa using h.symm
 | 2=>simpa using h.symm
 | i+3=>simp at h
theorem f4_ {w w':World} {v:Value} {X:oQ} {B:Nat} {T:TypeId} (h:aK w v X) (hB:w.heap[B]?=some (.cells lW T (0,0))) (hg:w.grownBy w' (some B)):aK w' v X :=
 C3_ h hB (fun x u _ hu i hi=>by
  have h1:[u]=[.int .i64 x]:=hu.1;rw [g9_ hi] at h1
  simp at h1) (fun _ _ _ h=>h) hg
theorem o7_ {w w':World} {v:Value} {X:oP} {B:Nat} {T:TypeId} (h:aV w v X) (hn:∀ x∈X,x≠[]) (hB:w.heap[B]?=some (.cells lW T (0,0))) (hg:w.grownBy w' (some B)):aV w' v X :=
 C3_ h hB (fun x u hx hu i hi=>by
  obtain ⟨y,hy,hI⟩:=hu;rw [g9_ hi] at hy;simp only [List.cons.injEq,and_true] at hy;obtain ⟨a,c,he,-,-,-,-,hc⟩:=hI.open;rw [<- hy] at he;simp only [Value.slice.injEq] at he
  exact hn x hx (List.length_eq_zero_iff.1 he.2.1.symm)) (fun x l hx hl=>by
  obtain ⟨y,rfl,hI⟩:=hl
  exact ⟨y,rfl,f4_ hI hB hg⟩) hg
theorem R0_ {w w':World} {v:Value} {P:oQ} {C M:oP} {B:Nat} {T:TypeId} (h:bZ w v P C M) (hC:∀ x∈C,x≠[]) (hM:∀ x∈M,x≠[]) (hB:w.heap[B]?=some (.cells lW T (0,0))) (hg:w.grownBy w' (some B)):bZ w' v P C M:=by
 obtain ⟨p,c,m,rfl,h1,h2,h3⟩:=h;exact ⟨p,c,m,rfl,f4_ h1 hB hg,o7_ h2 hC hB hg,o7_ h3 hM hB hg⟩
theorem G4_ {w:World} {p c m:Value} {P:oQ} {C M:oP} (h:bZ w (.agg #[p,c,m]) P C M):aK w p P/\aV w c C/\aV w m M:=by
 obtain ⟨q0,q1,q2,Hh,vG,vF,yo⟩:=h;simp only [Value.agg.injEq,Array.mk.injEq,List.cons.injEq,and_true] at Hh;obtain ⟨rfl,rfl,rfl⟩:=Hh;exact ⟨vG,vF,yo⟩
theorem mI (w:World) (B:Nat) (a b c:Value):w.grownBy (((w.setCell ⟨B,0,none⟩ a).setCell ⟨B,1,none⟩ b).setCell ⟨B,2,none⟩ c) (some B) :=
 fm (fm (eL w B 0 a) (eL _ B 1 b)) (eL _ B 2 c)
def jg (w0:World) (P:oQ) (C M C' M':oP):Nat->World->Value->Prop
 | 0,u,v=>bZ u v P C M
 | 1,u,v=>bZ u v P C' M'
 | _,u,v=>mL lW 34 w0 u v
theorem Z2Q {C:Array Value} {T:TypeId} {w0 u u':World} {v:Value} (h:mL C T w0 u v) (he:aA u u'):mL C T w0 u' v:=by
 obtain ⟨g,h1,h2,h3⟩:=h;exact ⟨g,h1,h2,aF h3 he⟩
theorem jg.ext {w0:World} {P:oQ} {C M C' M':oP}:∀ (j:Nat) (u u':World) (v:Value),jg w0 P C M C' M' j u v->aA u u'->jg w0 P C M C' M' j u' v
 | 0,_,_,_,h,he=>bZ.ext h he
 | 1,_,_,_,h,he=>bZ.ext h he
 | _+2,_,_,_,h,he=>Z2Q h he
theorem jg.box {w0:World} {P:oQ} {C M C' M':oP} (j:Nat) (u:World) (v:Value) (hj:decide (2<=j)=true) (h:jg w0 P C M C' M' j u v):∃ g,v=.pointer (some ⟨g,0,none⟩)/\g<u.heap.size:=by
 obtain ⟨j,rfl⟩:∃ i,j=i+2:=⟨j-2,by have:=of_decide_eq_true hj;omega⟩;obtain ⟨g,h1,h2,h3⟩:mL _ _ _ _ _:=h;exact ⟨g,h1,c_ h3⟩
theorem h9_ {C:Array Value} {T:TypeId} {w0 u:World} (h:w0.heap.size<=u.heap.size):mL C T w0 (u.alloc (.cells C T)) (.pointer (some ⟨u.heap.size,0,none⟩)):=⟨_,rfl,h,dE _ _ _⟩
theorem Z1f {α:Type} {vs:List (Option α)} (hl:vs.length=4) (h:∀ j,j<4->∃ v,vs[j]?=some (some v)):∃ a b c d,vs=[some a,some b,some c,some d]:=by
 rcases vs with _ | ⟨v0,_ | ⟨v1,_ | ⟨v2,_ | ⟨v3,_ | ⟨v4,vs⟩⟩⟩⟩⟩ <;> simp at hl
 obtain ⟨a,ha⟩:=h 0 (by omega);obtain ⟨b,hb⟩:=h 1 (by omega);obtain ⟨c,hc⟩:=h 2 (by omega);obtain ⟨d,hd⟩:=h 3 (by omega);simp at ha hb hc hd;exact ⟨a,b,c,d,by rw [ha,hb,hc,hd]⟩
theorem z2_ (P P':oQ) (C C' M M':oP) (v u:Value) (w:World) (h:bZ w v P C M) (k:bZ w u P' C' M') :
  oL 27 #[v,u] w (.bool (P == P' && (C == C' && M == M'))):=by
 obtain ⟨p,c,m,rfl,hp,hc,hm⟩:=h;obtain ⟨q,d,r,rfl,hq,hd,hr⟩:=k;have H1:=np (fun W (hW:aA w W)=>J4_ P P' p q W (hp.ext hW) (hq.ext hW));have H2:=np (fun W (hW:aA w W)=>G6_ C C' c d W (hc.ext hW) (hd.ext hW));have H3:=np (fun W (hW:aA w W)=>G6_ M M' m r W (hm.ext hW) (hr.ext hW));obtain ⟨a1,c1,rfl,-⟩:=hp.open;obtain ⟨a2,c2,rfl,-⟩:=aP.open hc;obtain ⟨a3,c3,rfl,-⟩:=aP.open hm;obtain ⟨a4,c4,rfl,-⟩:=hq.open;obtain ⟨a5,c5,rfl,-⟩:=aP.open hd;obtain ⟨a6,c6,rfl,-⟩:=aP.open hr;obtain ⟨B1,CA⟩:=oN ((P == P'));obtain ⟨B2,B9⟩:=oN ((C == C'));obtain ⟨B3,B8⟩:=oN ((M == M'));rw [CA] at H1 |-;rw [B9] at H2 |-;rw [B8] at H3 |-;clear hp hc hm hq hd hr CA B9 B8
 go_enter func27,ntmps27
 obtain ⟨W1,oZ,hE1,hs1,hb1⟩:=fv w (.slice a1 P.length c1) (.slice a2 C.length c2) (.slice a3 M.length c3);obtain ⟨W2,pg,hE2,hs2,oY⟩:=fv W1 (.slice a4 P'.length c4) (.slice a5 C'.length c5) (.slice a6 M'.length c6);have HB1:=np (aF hb1 hE2);have HB2:=np oY;have HE2:=np (hE1.trans hE2);obtain ⟨x0,x1,x2,-⟩:=bc HB1;obtain ⟨y0,y1,y2,-⟩:=bc HB2;clear hE1 hs1 hb1 hE2 hs2 oY;go_wp2_with fail;refine (H1 _ HE2).mono ?_;rintro e w3 ⟨rfl,oT⟩;have HB13:=np (aF HB1 oT);have HB23:=np (aF HB2 oT);have HE3:=np (HE2.trans oT);clear oT H1 HB1 HB2 HE2 x0 x1 x2 y0 y1 y2 oZ pg;obtain ⟨x0,x1,x2,-⟩:=bc HB13;obtain ⟨y0,y1,y2,-⟩:=bc HB23;cases B1
 ·go_wp2_with fail;go_ret;exact ⟨rfl,HE3⟩
 ·go_wp2_with fail;refine (H2 _ HE3).mono ?_;rintro e w4 ⟨rfl,hE4⟩;have HB14:=np (aF HB13 hE4);have HB24:=np (aF HB23 hE4);have HE4:=np (HE3.trans hE4);clear hE4 H2 HB13 HB23 HE3 x0 x1 x2 y0 y1 y2;obtain ⟨x0,x1,x2,-⟩:=bc HB14;obtain ⟨y0,y1,y2,-⟩:=bc HB24;cases B2
  ·go_wp2_with fail;go_ret;exact ⟨rfl,HE4⟩
  ·go_wp2_with fail;refine p_ (H3 _ HE4) (HE4.trans) ?_;intro w5 HE5;clear H3 HB14 HB24 HE4 x0 x1 x2 y0 y1 y2;cases B3
   ·go_wp2_with fail;go_ret;exact ⟨rfl,HE5⟩
   ·go_wp2_with fail;go_ret;exact ⟨rfl,HE5⟩
def Z49 (g:Nat) (w:World) (P:oQ) (m C M:oP):Prop:=∀ W vp v,aA w W->aK W vp P->aV W v m->Calls prog g #[vp,v] W fun e w'=>∃ u,e=.returned (.tuple #[u,.int .i64 0])/\bZ w' u P C M/\aA W w'
def Z5X (n:Nat) (w:World) (m:oP):Prop:=∀ W v,aA w W->aV W v m->Calls prog 47 #[.int .i64 n,v] W fun e w'=>∃ k a c,e=.returned (.tuple #[.agg #[.int .i64 n,.slice a k c],.int .i64 0])/\aA W w'
theorem r8_ (g:Nat) (eg:∀ args w,(callFunc g args).run prog w=.ok (.enter g args) w) (n:Nat) (P:oQ) (m m' C M C' M':oP) (vp v v':Value) (w:World) (hP:aK w vp P) (h:aV w v m) (h':aV w v' m') (hE:dM P=0) (hPl:P.length=n) (ho:Z5X n w m) (yu:Z5X n w m') (hg:Z49 g w P m C M) (sG:Z49 g w P m' C' M') :
  oL 96 #[vp,v,v',.func (.func g) #[] #[]] w (.tuple #[.bool (C == C' && M == M'),.int .i64 0]):=by
 have HPC:=np (fun W (hW:aA w W)=>lz P vp W (hP.ext hW));rw [hE] at HPC;have HO1:=np (fun W (hW:aA w W)=>ho W v hW (h.ext hW));have HO2:=np (fun W (hW:aA w W)=>yu W v' hW (h'.ext hW));have HG1:=np (fun W (hW:aA w W)=>hg W vp v hW (hP.ext hW) (h.ext hW));have HG2:=np (fun W (hW:aA w W)=>sG W vp v' hW (hP.ext hW) (h'.ext hW));have AN:Hid (∀ W u u',bZ W u P C M->bZ W u' P C' M'->oL 27 #[u,u'] W (.bool (C == C' && M == M'))):=fun W u u' k k'=>by
  have:=z2_ P P C C' M M' u u' W k k';simpa using this
 obtain ⟨ap,cp,rfl,-⟩:=hP.open;obtain ⟨a,c,rfl,-⟩:=aP.open h;obtain ⟨a',c',rfl,-⟩:=aP.open h';rw [hPl] at HPC HG1 HG2 |-;obtain ⟨B,hB⟩:=oN ((C == C' && M == M'));rw [hB] at AN |-;clear hP h h' hE hPl ho yu hg sG hB
 go_enter func96,ntmps96
 go_wp2_with fail;refine q_ (HPC w (aA.refl _)) ?_;clear HPC;obtain ⟨W1,oZ⟩:=oN (w.alloc (.cells #[.slice a m.length c,.slice a' m'.length c'] 32));have HE1:Hid (aA w W1):=by rw [<- oZ];exact aA.alloc _ _
 have HB1:Hid (W1.heap[w.heap.size]?=some (.cells #[.slice a m.length c,.slice a' m'.length c'] 32 (0,0))):=by rw [<- oZ];exact dE _ _ _
 obtain ⟨b1,hb1⟩:=oN w.heap.size;go_wp2_with fail;rw [hb1] at HB1;clear oZ hb1
 go_loopw [27] (fun t wr=>∃ i:Nat,i<=2/\t=.int .i64 i/\Hid (aA W1 wr)) (fun t _=>2-(intOf t).toNat)
 case atStart=>exact ⟨0,by omega,rfl,aA.refl _⟩
 case round =>
  obtain ⟨i,hi,rfl,HE⟩:=hrel;obtain ⟨wo,rfl⟩:∃ wo:World,wo=wr:=⟨_,rfl⟩;have HEo:=np (HE1.trans HE);have HBo:=np (aF HB1 HE);have zz:i=0\/i=1\/i=2:=by omega
  rcases zz with rfl | rfl | rfl
  ·have g1:=ag HBo 0;simp only [oF,oE,oD] at g1;clear hi;go_wp2_with fail;refine (HO1 _ HEo).mono ?_;rintro e w6 ⟨k6,a6,c6,rfl,oU⟩;have HE6:=np (HE.trans oU);clear oU HE HEo HBo g1;obtain ⟨V6,FY,hX,hs,hb⟩:=cL w6 (.int .i64 0) (.slice none 0 0);obtain ⟨r0,r1,rf⟩:=bG hb;have f0:=rf 0;have f1:=rf 1;have HB6:=np (eE hb (.int .i64 n) (.slice a6 k6 c6));have HX6:=np (db hX (n9 _) (.int .i64 n) (.slice a6 k6 c6));clear hX hs hb rf;obtain ⟨U6,AG⟩:=oN ((V6.setCell ⟨w6.heap.size,0,none⟩ (.int .i64 n)).setCell ⟨w6.heap.size,1,none⟩ (.slice a6 k6 c6));rw [AG] at HB6 HX6;obtain ⟨s0,s1,-⟩:=bG HB6;have HEU6:=np (HE6.trans HX6);go_wp2_with fail;go_roundw
   case rel=>exact ⟨1,by omega,by go_num,HEU6⟩
   case measure=>simp [intOf]
  ·have g1:=ag HBo 1;simp only [oF,oE,oD] at g1;clear hi;go_wp2_with fail;refine (HO2 _ HEo).mono ?_;rintro e w6 ⟨k6,a6,c6,rfl,oU⟩;have HE6:=np (HE.trans oU);clear oU HE HEo HBo g1;obtain ⟨V6,FY,hX,hs,hb⟩:=cL w6 (.int .i64 0) (.slice none 0 0);obtain ⟨r0,r1,rf⟩:=bG hb;have f0:=rf 0;have f1:=rf 1;have HB6:=np (eE hb (.int .i64 n) (.slice a6 k6 c6));have HX6:=np (db hX (n9 _) (.int .i64 n) (.slice a6 k6 c6));clear hX hs hb rf;obtain ⟨U6,AG⟩:=oN ((V6.setCell ⟨w6.heap.size,0,none⟩ (.int .i64 n)).setCell ⟨w6.heap.size,1,none⟩ (.slice a6 k6 c6));rw [AG] at HB6 HX6;obtain ⟨s0,s1,-⟩:=bG HB6;have HEU6:=np (HE6.trans HX6);go_wp2_with fail;go_roundw
   case rel=>exact ⟨2,by omega,by go_num,HEU6⟩
   case measure=>simp [intOf]
  ·clear hi HE HBo HB1 HE1;go_wp2_with fail
   go_at_fn g
   refine (HG1 _ HEo).mono ?_;rintro e w7 ⟨u7,rfl,Ks,pK⟩;have HE7:=np (HEo.trans pK);clear pK;obtain ⟨p7,c7,m7,rfl,pZ,qI,pz⟩:=Ks;have HT7:Hid (bZ w7 (.agg #[p7,c7,m7]) P C M):=⟨_,_,_,rfl,pZ,qI,pz⟩;obtain ⟨GJ,DY,rfl,-⟩:=pZ.open;obtain ⟨GP,De,rfl,-⟩:=aP.open qI;obtain ⟨GM,Db,rfl,-⟩:=aP.open pz;clear pZ qI pz;obtain ⟨V7,Bg,Be,D2,zD⟩:=fv w7 (.slice none 0 0) (.slice none 0 0) (.slice none 0 0);obtain ⟨r0,r1,r2,rf⟩:=bc zD;have f0:=rf 0;have f1:=rf 1;have f2:=rf 2;have HB7:=np (iQ zD (.slice GJ P.length DY) (.slice GP C.length De) (.slice GM M.length Db));have HX7:=np (iB Be (n9 _) (.slice GJ P.length DY) (.slice GP C.length De) (.slice GM M.length Db));clear Be D2 zD rf;obtain ⟨U7,yJ⟩:=oN (((V7.setCell ⟨w7.heap.size,0,none⟩ (.slice GJ P.length DY)).setCell ⟨w7.heap.size,1,none⟩ (.slice GP C.length De)).setCell ⟨w7.heap.size,2,none⟩ (.slice GM M.length Db));rw [yJ] at HB7 HX7;have HEU7:=np (HE7.trans HX7);have HT7:=np (HT7.ext HX7);obtain ⟨s0,s1,s2,-⟩:=bc HB7;go_wp2_with fail
   go_at_fn g
   refine (HG2 _ HEU7).mono ?_;rintro e w8 ⟨u8,rfl,Kr,sY⟩;have HE8:=np (HEU7.trans sY);have HB78:=np (aF HB7 sY);have HT78:=np (HT7.ext sY);clear sY;clear s0 s1 s2 yJ Bg r0 r1 r2 f0 f1 f2;obtain ⟨p8,c8,m8,rfl,pZ,qI,pz⟩:=Kr;have HT8:Hid (bZ w8 (.agg #[p8,c8,m8]) P C' M'):=⟨_,_,_,rfl,pZ,qI,pz⟩;obtain ⟨GI,DX,rfl,-⟩:=pZ.open;obtain ⟨GO,Dd,rfl,-⟩:=aP.open qI;obtain ⟨GL,Da,rfl,-⟩:=aP.open pz;clear pZ qI pz;obtain ⟨V8,IZ,Be,D2,zD⟩:=fv w8 (.slice none 0 0) (.slice none 0 0) (.slice none 0 0);obtain ⟨r0,r1,r2,rf⟩:=bc zD;have f0:=rf 0;have f1:=rf 1;have f2:=rf 2;have HB8:=np (iQ zD (.slice GI P.length DX) (.slice GO C'.length Dd) (.slice GL M'.length Da));have HX8:=np (iB Be (n9 _) (.slice GI P.length DX) (.slice GO C'.length Dd) (.slice GL M'.length Da));clear Be D2 zD rf;obtain ⟨U8,C9⟩:=oN (((V8.setCell ⟨w8.heap.size,0,none⟩ (.slice GI P.length DX)).setCell ⟨w8.heap.size,1,none⟩ (.slice GO C'.length Dd)).setCell ⟨w8.heap.size,2,none⟩ (.slice GL M'.length Da));rw [C9] at HB8 HX8;have HEU8:=np (HE8.trans HX8);have HT8:=np (HT8.ext HX8);obtain ⟨s0,s1,s2,-⟩:=bc HB8;have HB79:=np (aF HB78 HX8);have HT79:=np (HT78.ext HX8);obtain ⟨q0,q1,q2,-⟩:=bc HB79;go_wp2_with fail;refine p_ (AN _ _ _ HT79 HT8) (HEU8.trans) ?_;intro w9 HE9;clear s0 s1 s2 q0 q1 q2;go_wp2_with fail;go_ret2;exact ⟨rfl,HE9⟩
theorem w6_ {n F:Nat} {m R A S:oP} {w:World} (hD:di n F m R A S) (oS:bg w) (hp:3<w.heap.size):Z5X n w m:=fun W v hW h=>by
 refine (nR n F m R A S v W h hD (oS.ext hW) (n7 hp hW.size)).mono fun e w' ⟨u,h1,h2,h3⟩=>?_;obtain ⟨a,c,rfl,-⟩:=aR.open h2.now;exact ⟨_,a,c,h1,h3⟩
theorem Z2h (n F F':Nat) (P:oQ) (m R A S m' R' A' S':oP) (vp v v':Value) (w:World) (hP:aK w vp P) (h:aV w v m) (h':aV w v' m') (hE:dM P=0) (hPl:P.length=n) (hD:di n F m R A S) (xG:di n F' m' R' A' S') (oS:bg w) (hp:3<w.heap.size) :
  oL 25 #[vp,v,v'] w (.tuple #[.bool (S == S' && A == A'),.int .i64 0]):=by
 have HSM:=np (r8_ 55 (enters_of func55 (by kernel_rfl) rfl) n P m m' S A S' A' vp v v' w hP h h' hE hPl (w6_ hD oS hp) (w6_ xG oS hp)
  (fun W vp v hW hP h=>(U3_ n F P m R A S vp v W hP h hE hPl hD (oS.ext hW) (n7 hp hW.size)).mono fun e w' ⟨u,h1,h2,h3⟩=>⟨u,h1,h2.now,h3⟩)
  (fun W vp v hW hP h=>(U3_ n F' P m' R' A' S' vp v W hP h hE hPl xG (oS.ext hW) (n7 hp hW.size)).mono fun e w' ⟨u,h1,h2,h3⟩=>⟨u,h1,h2.now,h3⟩))
 obtain ⟨ap,cp,rfl,-⟩:=hP.open;obtain ⟨a,c,rfl,-⟩:=aP.open h;obtain ⟨a',c',rfl,-⟩:=aP.open h';clear hP h h' hE hPl hD xG oS hp
 go_enter func25,ntmps25
 go_wp2_with fail;refine HSM.mono ?_;rintro e w1 ⟨rfl,hE1⟩;go_wp2_with fail;go_ret2;exact ⟨rfl,hE1⟩
theorem Z2i (n F F':Nat) (P:oQ) (m R A S m' R' A' S':oP) (vp v v':Value) (w:World) (hP:aK w vp P) (h:aV w v m) (h':aV w v' m') (hE:dM P=0) (hPl:P.length=n) (hD:di n F m R A S) (xG:di n F' m' R' A' S') (oS:bg w) (hp:3<w.heap.size) :
  oL 46 #[vp,v,v'] w (.tuple #[.bool (A == A' && S == S'),.int .i64 0]):=by
 have HSM:=np (r8_ 60 (enters_of func60 (by kernel_rfl) rfl) n P m m' A S A' S' vp v v' w hP h h' hE hPl (w6_ hD oS hp) (w6_ xG oS hp)
  (fun W vp v hW hP h=>(W5_ n F P m R A S vp v W hP h hE hPl hD (oS.ext hW) (n7 hp hW.size)).mono fun e w' ⟨u,h1,h2,h3⟩=>⟨u,h1,h2.now,h3⟩)
  (fun W vp v hW hP h=>(W5_ n F' P m' R' A' S' vp v W hP h hE hPl xG (oS.ext hW) (n7 hp hW.size)).mono fun e w' ⟨u,h1,h2,h3⟩=>⟨u,h1,h2.now,h3⟩))
 obtain ⟨ap,cp,rfl,-⟩:=hP.open;obtain ⟨a,c,rfl,-⟩:=aP.open h;obtain ⟨a',c',rfl,-⟩:=aP.open h';clear hP h h' hE hPl hD xG oS hp
 go_enter func46,ntmps46
 go_wp2_with fail;refine HSM.mono ?_;rintro e w1 ⟨rfl,hE1⟩;go_wp2_with fail;go_ret2;exact ⟨rfl,hE1⟩
theorem Q2_ (n:Int) (w:World) (h1:-1000000000<=n) (h2:n<=1000000000) (oS:bg w) :
  oL 95 #[.string (aB n)] w (.tuple #[.int .i64 n,.int .i64 0]):=by
 have qo:fl n:=⟨by omega,by omega⟩;have Hp:n.natAbs<=1000000000:=by omega
 have hsz:(aB n).size<=2000000000:=n8 (Q1_ (n:=n) (k:=10) (Nat.lt_of_le_of_lt Hp (by decide)) (by decide) (by decide)) (by decide);have HS:=np (A5_ n w hsz oS);rw [show gK n=n by unfold gK;rw [if_pos qo],oH qo] at HS;have k1:¬ (1000000000<n):=by omega
 have k2:¬ (n < -1000000000):=by omega
 clear oS qo hsz Hp h1 h2
 go_enter func95,ntmps95
 go_wp2_with fail;refine HS.mono ?_;rintro e w1 ⟨rfl,hE1⟩;go_wp2_with fail;go_ret2;exact ⟨rfl,hE1⟩
theorem k2_ (n:Int) (w:World) (h1:-1000000000<=n) (h2:n<=1000000000) (oS:bg w) :
  oL 94 #[.string (aB n)] w (.bool false):=by
 have HS:=np (Q2_ n w h1 h2 oS);clear oS h1 h2
 go_enter func94,ntmps94
 go_wp2_with fail;refine HS.mono ?_;rintro e w1 ⟨rfl,hE1⟩;go_wp2_with fail;go_ret;exact ⟨rfl,hE1⟩
theorem o9_ (xs:oQ) (v:Value) (w:World) (h:aR 1 (aP Z5Y) w v xs) (hb:∀ x∈xs,x.natAbs<=1000000000) (oS:bg w) :
  oL 92 #[v,.func (.func 94) #[] #[]] w (.bool false):=by
 have:=K6_ (R:=Z5Y) (fun _ _ _ _ _ h=>h) xs v 94 #[] (fun _=>false) w h (enters_of func94 (by kernel_rfl) rfl) fun W x a hx hW ha=>by
  rw [show a=.string (aB x) from ha];have:=hb x hx;exact k2_ x W (by omega) (by omega) (oS.ext hW)
 rw [show (xs.any fun _=>false)=false by simp] at this;exact this
def Z4v (n:Nat):Nat->Nat->Nat->List Nat
 | 0,_,s=>[s]
 | k+1,f,s=>(List.range (n-k-f)).flatMap fun d=>Z4v n k (f+d+1) (s ||| (1 <<< (f+d)))
def ai (n k:Nat):List Nat:=Z4v n k 0 0
def bE (s:Nat):List Nat:=(List.range 12).filter fun i=>s.testBit i
def Z5y (s:List Nat):Nat:=match s.getLast? with | some x=>x+1 | none=>0
def Z61 (n:Nat) (l:List (List Nat)):List (List Nat):=l.flatMap fun s=>(List.range' (Z5y s) (n-Z5y s)).map fun x=>s++[x]
def bh (n:Nat):Nat->List (List Nat)
 | 0=>[[]]
 | k+1=>Z61 n (bh n k)
def iP (n k:Nat) (s:List Nat):Nat->Option Nat
 | 0=>none
 | i+1=>if s.getD i 0+k=n+i then iP n k s i else some i
def jz (n k:Nat) (s:List Nat):Option (List Nat):=match iP n k s k with
 | none=>none
 | some i=>some (s.take i++(List.range (k-i)).map fun j=>s.getD i 0+1+j)
def iZ (s:List Nat):Nat:=s.foldl (fun a x=>a*16+x) 0
def kF (n k:Nat):List (List Nat)->Bool
 | []=>false
 | [s]=>decide (jz n k s=none)
 | s::t::l=>decide (jz n k s=some t) && (decide (iZ s<iZ t) && kF n k (t::l))
def Z5L (n k:Nat) (s:List Nat):Bool:=decide (s.length=k) && (s.all (fun x=>decide (x<n)) && decide (iZ s<1000000000000000000))
def eA (n:Nat):Nat->Nat
 | 0=>1
 | i+1=>eA n i*(n-i) / (i+1)
def Z4o (n k:Nat):Bool:=decide ((bh n k).head?=some (List.range k)) && kF n k (bh n k) && (bh n k).all (Z5L n k) && decide (eA n k=(bh n k).length) && decide ((bh n k).length<=1000)
theorem Z3V:∀ n,n<13->∀ k,k<n+1->Z4o n k=true:=by decide +kernel
theorem t3_ {n k:Nat}:∀ {l:List (List Nat)},kF n k l=true->∀ (i:Nat) s,l[i]?=some s->jz n k s=l[i+1]?
 | [],h,i,s,hs=>by simp at hs
 | [t],h,i,s,hs=>by
  cases i with
  | zero =>
   simp only [oE,Option.some.injEq] at hs;subst hs;simpa [kF] using h
  | succ i=>simp at hs
 | a::b::l,h,i,s,hs=>by
  simp only [kF,Bool.and_eq_true,decide_eq_true_eq] at h;cases i with
  | zero =>
   simp only [oE,Option.some.injEq] at hs;subst hs;simpa using h.1
  | succ i =>
   rw [oD] at hs |-;exact t3_ h.2.2 i s hs
theorem g0_ {n k:Nat}:∀ {l:List (List Nat)},kF n k l=true->∀ (i:Nat) s t,l[i]?=some s->l[i+1]?=some t->iZ s<iZ t
 | [],h,i,s,t,hs,ht=>by simp at hs
 | [a],h,i,s,t,hs,ht=>by simp at ht
 | a::b::l,h,i,s,t,hs,ht=>by
  simp only [kF,Bool.and_eq_true,decide_eq_true_eq] at h;cases i with
  | zero =>
   simp only [oE,oD,Option.some.injEq] at hs ht;subst hs;subst ht;exact h.2.1
  | succ i =>
   rw [oD] at hs ht;exact g0_ h.2.2 i s t hs ht
structure Z5p (n k:Nat) (L:List (List Nat)):Prop where
 head:L[0]?=some (List.range k)
 next:∀ (i:Nat) s,L[i]?=some s->jz n k s=L[i+1]?
 len:∀ s∈L,s.length=k
 lt:∀ s∈L,∀ x∈s,x<n
 up:∀ (i:Nat) s t,L[i]?=some s->L[i+1]?=some t->iZ s<iZ t
 bd:∀ s∈L,iZ s<1000000000000000000
theorem nY {n k:Nat} (hn:n<=12) (hk:k<=n):Z5p n k (bh n k)/\eA n k=(bh n k).length/\(bh n k).length<=1000:=by
 have h:=Z3V n (by omega) k (by omega);simp only [Z4o,Bool.and_eq_true,decide_eq_true_eq,List.all_eq_true,Z5L] at h;obtain ⟨⟨⟨⟨h1,h2⟩,h3⟩,h4⟩,h5⟩:=h;exact ⟨⟨by rw [<- List.head?_eq_getElem?];exact h1,t3_ h2,fun s hs=>(h3 s hs).1,fun s hs=>(h3 s hs).2.1,g0_ h2,fun s hs=>(h3 s hs).2.2⟩,h4,h5⟩
def eY (n k s:Nat):Nat:=(ai n k).findIdx (· == s)
def iX (s i:Nat):Nat:=((bE s).filter fun j=>decide (j<i)).length
def gF (s t:Nat):Bool:=decide (((bE s).map (iX t)).sum%2=1)
def Z5G (l:List (List Nat)) (s:List Nat):Nat:=l.findIdx (· == s)
def Z4a (n k:Nat):Bool:=decide ((ai n k).map bE=bh n k) && ((ai n k).all fun s=>decide (eY n k s=Z5G (bh n k) (bE s)) && decide (eY n k s<(bh n k).length))
theorem Z0F:∀ n,n<7->∀ k,k<n+1->Z4a n k=true:=by decide +kernel
def eQ (x:Int) (o:Bool):Int:=if o=true then -x else x
theorem v7_ (x:Int) (o:Bool):(eQ x o).natAbs=x.natAbs:=by unfold eQ;split <;> simp
def Z4w (N:Nat) (l:oQ):Prop:=∀ x∈l,x.natAbs<=N
theorem Z4w.getD {N:Nat} {l:oQ} (h:Z4w N l) (i:Nat):(l.getD i 0).natAbs<=N:=by
 rw [nu];cases hx:l[i]? with
 | none=>simp
 | some x=>exact h x (nw hx)
def dX (n s:Nat):Nat:=(2^n-1) ^^^ s
def dR (n k:Nat) (X:oQ):List Int:=(ai n (n-k)).map fun s=>eQ (X.getD (eY n k (dX n s)) 0) (gF (dX n s) s)
def g_ (X:oQ) (i:Nat):Nat:=(X.take i).foldl (fun g x=>Nat.gcd g x.natAbs) 0
def cP (X:oQ):Nat:=g_ X X.length
theorem mi {X:oQ} {i:Nat} {x:Int} (h:X[i]?=some x):g_ X (i+1)=Nat.gcd (g_ X i) x.natAbs:=by
 unfold g_;rw [nz,h,List.foldl_append];rfl
def jX (X:oQ):Int:=match X.find? (·≠0) with | some x=>x.sign | none=>0
theorem d1_ {n k:Nat} (hn:n<7) (hk:k<=n):(ai n k).map bE=bh n k:=by
 have h:=Z0F n hn k (by omega);unfold Z4a at h;simp only [Bool.and_eq_true,decide_eq_true_eq] at h;exact h.1
theorem Z1i {n:Nat} (hn:n<7):ai n 0=[0]:=by
 have h:∀ m,m<7->ai m 0=[0]:=by decide +kernel
 exact h n hn
def u64C (_:World) (u:List Value) (x:Nat):Prop:=u=[.int .u64 (x:Int)]
theorem u64C.mono:gT u64C:=fun _ _ _ _ _ h=>h
abbrev mW (w:World) (v:Value) (xs:List Nat):Prop:=aR 1 u64C w v xs
theorem mW.ext {w w':World} {v:Value} {xs:List Nat} (h:mW w v xs) (he:aA w w'):mW w' v xs:=aR.ext u64C.mono h he
theorem mW.open {w:World} {v:Value} {xs:List Nat} (h:mW w v xs):∃ (a:Option Addr) (cap:Nat),v=.slice a xs.length cap/\xs.length<=cap/\cap<=maxLen /\
  (xs≠[]->∃ b off,a=some ⟨b,off,none⟩/\b<w.heap.size/\∀ (j:Nat) x,xs[j]?=some x->w.cell? ⟨b,off+j,none⟩=some (.int .u64 (x:Int))):=by
 obtain ⟨a,cap,hv,h1,h2,-,h4⟩:=aR.open h;refine ⟨a,cap,hv,h1,h2,fun hne=>?_⟩;obtain ⟨b,off,ha,hb,hc⟩:=h4 (by decide) hne;refine ⟨b,off,ha,hb,fun j x hx=>?_⟩;obtain ⟨u,hu,hr,hcell⟩:=hc j x hx;have:=hcell 0 (by decide);rw [hr] at this;simpa using this
theorem aj.box {w:World} {base:Nat} {e:TypeId} {v:Value} {xs:List Nat} (h:aj w base e 1 v u64C xs) {g:Nat} (hg:g<base) (y:Value):aj (w.setCell ⟨g,0,none⟩ y) base e 1 v u64C xs:=by
 obtain ⟨us,h1,h2,h3,h4⟩:=h;refine ⟨us,h1,h2,ownsRow_setCell_other h3 (fun e=>?_) y,fun j u x hu hx w' _=>(h4 j u x hu hx).now⟩;have:=(h3.lt g e).1;omega
theorem D0_ (u v:Nat) (w:World) (hu:(aE u).size<=3000000000) (hv:(aE v).size<=3000000000) (ht:aZ w) :
  oL 284 #[.string (aE u),.string (aE v)] w (.string (aE (Nat.gcd u v))):=by
 have HT:=np ht;have HU:=np hu;have HV:=np hv;clear ht hu hv
 go_enter func284,ntmps284
 go_wp2_with fail
 go_loopw [0,1] (fun a b wr=>∃ x y:Nat,a=.string (aE x)/\b=.string (aE y)/\Hid (Nat.gcd x y=Nat.gcd u v)/\Hid ((aE x).size<=3000000000)/\Hid ((aE y).size<=3000000000)/\Hid (aA w wr)) (fun _ b _=>match b with | .string s=>al 0 s.data.toList | _=>0)
 case atStart=>exact ⟨u,v,rfl,rfl,rfl,HU,HV,aA.refl _⟩
 case round =>
  obtain ⟨x,y,rfl,rfl,HG,HX,HY,HE⟩:=hrel;obtain ⟨wo,rfl⟩:∃ wo:World,wo=wr:=⟨_,rfl⟩;have hz:=jy y;by_cases hy:y=0
  ·rw [oH hy] at hz;have HF:Hid (x=Nat.gcd u v):=(by unfold Hid;rw [<- HG.out,hy,Nat.gcd_zero_right]);clear hy;go_wp2_with fail;go_ret;exact ⟨by rw [<- HF.out];rfl,HE⟩
  ·rw [oG hy] at hz;have HD:=np (Y9_ x y wo HX HY hy (HT.ext HE));have HG2:Hid (Nat.gcd y (x%y)=Nat.gcd u v):=by
    unfold Hid;rw [<- HG.out,Nat.gcd_comm y (x%y),<- Nat.gcd_rec,Nat.gcd_comm]
   have LK:Hid ((aE (x%y)).size<=3000000000):=n8 (ib (Nat.le_of_lt (Nat.mod_lt _ (by omega)))) HY;have CY:Hid (x%y<y):=Nat.mod_lt _ (by omega);have pn:Hid (∀ n,al 0 (aE n).data.toList=n):=fun n=>by rw [jT,jG]
   clear hy;go_wp2_with fail;refine p_ HD (aA.trans HE) ?_;intro w1 HE1;clear HD;go_wp2_with fail;go_roundw
   case rel=>exact ⟨y,x%y,rfl,rfl,HG2,HY,LK,HE1⟩
   case measure=>simp only [pn.out];exact CY
end Go.Proofs.YtoonaddcfakamaaGreatDoor
