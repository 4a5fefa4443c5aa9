import Derived.Test.YtjlkkofmojgipaaGreatDoorXAF
import Derived.Test.YtjlkkofmojgipaaGreatDoorXAL
import Derived.BigQuiet
import Derived.Maps.OwnSet
import Derived.Test.YtjlkkofmojgipaaGreatDoorXAN
import Derived.Test.YtjlkkofmojgipaaGreatDoorXAE
set_option linter.unusedVariables false
set_option linter.unusedSimpArgs false
set_option maxRecDepth 1000000
set_option maxHeartbeats 4000000
namespace Go.Proofs.YtjlkkofmojgipaaGreatDoor
open Go.RowKit Go.Maps Go.Proofs.Tryz
theorem kE {α:Type} {l:List α} {i:Nat} {x:α} (h:l[i]?=some x):l.drop i=x::l.drop (i+1):=by
 obtain ⟨hi,hx⟩:=n_.1 h;rw [List.drop_eq_getElem_cons hi,hx]
theorem Z0g (f:Nat):fF (f+1) [] []=some []:=rfl
theorem r8_ (f y:Nat) (b:List Nat):fF (f+2) [] (y::b)=(fF (f+1) [] b).map (y::·):=rfl
theorem k1_ (f x:Nat) (a:List Nat):fF (f+2) (x::a) []=(fF (f+1) a []).map (x::·):=by cases a <;> rfl
theorem k2_ (f x:Nat) (a b:List Nat):fF (f+1) (x::a) (x::b)=none:=by simp [fF]
theorem Z24 (f:Nat) {x y:Nat} (a b:List Nat) (h:x<y):fF (f+1) (x::a) (y::b)=(fF f a (y::b)).map (x::·):=by
 simp only [fF];rw [if_neg (by omega),if_pos h]
theorem Z23 (f:Nat) {x y:Nat} (a b:List Nat) (h:y<x):fF (f+1) (x::a) (y::b)=(fF f (x::a) b).map (y::·):=by
 simp only [fF];rw [if_neg (by omega),if_neg (by omega)]
def dm (a b:List Nat) (i k:Nat) (out:List Nat):Prop:=fS a b=(fF (a.length+b.length+1-i-k) (a.drop i) (b.drop k)).map (out++·)
theorem y4_ (out:List Nat) (x:Nat) (o:Option (List Nat)):(o.map (x::·)).map (out++·)=o.map ((out++[x])++·):=by
 cases o <;> simp
theorem dm.start (a b:List Nat):dm a b 0 0 []:=by unfold dm fS;simp
theorem dm.left {a b out:List Nat} {i k x:Nat} (h:dm a b i k out) (hk:k<=b.length) (hx:a[i]?=some x) (hy:∀ y,b[k]?=some y->x<y):dm a b (i+1) k (out++[x]):=by
 unfold dm at h |-;have hi:=(n_.1 hx).1;have e:=kE hx;rw [h,e];obtain ⟨f,hf⟩:∃ f,a.length+b.length+1-i-k=f+2:=⟨a.length+b.length-1-i-k,by omega⟩;rw [hf,show a.length+b.length+1-(i+1)-k=f+1 by omega];cases hb:b[k]? with
 | none =>
  rw [List.drop_eq_nil_of_le (List.getElem?_eq_none_iff.1 hb),k1_,y4_]
 | some y =>
  rw [kE hb,Z24 _ _ _ (hy y hb),y4_]
theorem dm.right {a b out:List Nat} {i k y:Nat} (h:dm a b i k out) (hi:i<=a.length) (hy:b[k]?=some y) (hx:∀ x,a[i]?=some x->y<x):dm a b i (k+1) (out++[y]):=by
 unfold dm at h |-;have hk:=(n_.1 hy).1;have e:=kE hy;rw [h,e];obtain ⟨f,hf⟩:∃ f,a.length+b.length+1-i-k=f+2:=⟨a.length+b.length-1-i-k,by omega⟩;rw [hf,show a.length+b.length+1-i-(k+1)=f+1 by omega];cases ha:a[i]? with
 | none =>
  rw [List.drop_eq_nil_of_le (List.getElem?_eq_none_iff.1 ha),r8_,y4_]
 | some x =>
  rw [kE ha,Z23 _ _ _ (hx x ha),y4_]
theorem dm.same {a b out:List Nat} {i k x:Nat} (h:dm a b i k out) (hx:a[i]?=some x) (hy:b[k]?=some x):fS a b=none:=by
 unfold dm at h;have hi:=(n_.1 hx).1;have hk:=(n_.1 hy).1;obtain ⟨f,hf⟩:∃ f,a.length+b.length+1-i-k=f+1:=⟨a.length+b.length-i-k,by omega⟩;rw [h,hf,kE hx,kE hy,k2_];rfl
theorem dm.done {a b out:List Nat} (h:dm a b a.length b.length out):fS a b=some out:=by
 unfold dm at h;rw [h,List.drop_eq_nil_of_le (oJ _),List.drop_eq_nil_of_le (oJ _),show a.length+b.length+1-a.length-b.length=0+1 by omega,Z0g];simp
def gd (n:Nat):Bool:=decide (n%2=1)
theorem d2_ (a b:Nat):gd (a+b)=(gd a ^^ gd b):=by
 unfold gd;rcases Nat.mod_two_eq_zero_or_one a with h1 | h1 <;> rcases Nat.mod_two_eq_zero_or_one b with h2 | h2 <;> rw [Nat.add_mod,h1,h2] <;> decide
def iL (x:Nat) (l:List Nat):Nat:=(l.filter fun y=>decide (y<x)).length
theorem Z0b (x y:Nat) (l:List Nat):iL x (y::l)=iL x l+(if y<x then 1 else 0):=by
 unfold iL;rw [List.filter_cons]
 split <;> split <;> simp_all
theorem d0_ (l:List Nat):eM l=gd (nK l):=rfl
theorem Z1P {l:List Nat} {i x:Nat} (h:l[i]?=some x):nK (l.drop i)=iL x (l.drop (i+1))+nK (l.drop (i+1)):=by rw [kE h];rfl
theorem dm.len {a b out:List Nat} {i k:Nat} (h:out.length=i+k):out.length<=i+k:=by omega
theorem jU {A:List Nat} {i x:Nat} (h:A[i]?=some x):(bC A)[i]?=some (x:Int):=by unfold bC;rw [oE,h];rfl
theorem r9_ (A B:List Nat) (hA:A.length<=12) (hB:B.length<=12) (hbd:∀ x,x∈A\/x∈B->x<4096) (sb:Bool) (zC:sb=(fS A B).isSome) (u v:Value) (w:World) (h:au w u (bC A)) (h':au w v (bC B)) :
  Calls prog 67 #[u,v] w fun e w'=>∃ o,e=.returned (.tuple #[o,.bool sb])/\aC w w'/\∀ M,fS A B=some M->au w' o (bC M):=by
 have HSB:=n8 zC;obtain ⟨aa,ca,rfl,p1,p2,p3,-,p5⟩:=h.open;obtain ⟨ab,cb,rfl,r1,r2,r3,-,r5⟩:=h'.open;unfold maxLen at p2 r2;have HCA:=n8 p5;have HCB:=n8 r5;have HBD:=n8 hbd;obtain ⟨la,qV⟩:∃ l,A.length=l:=⟨_,rfl⟩;obtain ⟨lb,hlb⟩:∃ l,B.length=l:=⟨_,rfl⟩;have HLA:=n8 qV;have HLB:=n8 hlb;have e1:(bC A).length=la:=by unfold bC;rw [List.length_map];exact qV
 have e2:(bC B).length=lb:=by unfold bC;rw [List.length_map];exact hlb
 rw [e1] at p1 |-;rw [e2] at r1 |-;have CI:Hid (∀ W,aC w W->∀ (i x:Nat),A[i]?=some x->∃ b o,aa=some ⟨b,o,none⟩/\W.cell? ⟨b,o+i,none⟩=some (.int .i64 x)):=fun W hW i x hx=>by
  obtain ⟨b,o,he,-,hc⟩:=HCA (by intro e;have:=jU hx;rw [e] at this;simp at this);exact ⟨b,o,he,hW.cell (hc i _ (jU hx))⟩
 have HGB:Hid (∀ W,aC w W->∀ (i x:Nat),B[i]?=some x->∃ b o,ab=some ⟨b,o,none⟩/\W.cell? ⟨b,o+i,none⟩=some (.int .i64 x)):=fun W hW i x hx=>by
  obtain ⟨b,o,he,-,hc⟩:=HCB (by intro e;have:=jU hx;rw [e] at this;simp at this);exact ⟨b,o,he,hW.cell (hc i _ (jU hx))⟩
 rw [qV] at hA;rw [hlb] at hB;clear h h' p5 r5 qV hlb e1 e2 HCA HCB p3 r3 zC
 go_enter func67,ntmps67
 go_wp2_with fail
 go_loopw [6,7,8] (fun o s t wr=>∃ (i k:Nat) (out:List Nat) (o0:Value),i<=la/\k<=lb/\s=.int .i64 (i:Int)/\t=.int .i64 (k:Int)/\o=o0/\Hid (dm A B i k out/\out.length=i+k/\∀ z∈out,z<4096)/\Hid (aC w wr)/\Hid (cS w.heap.size wr o0 (bC out))) (fun _ s t _=>la+lb+1-(intOf s).toNat-(intOf t).toNat)
 case atStart=>exact ⟨0,0,[],_,by omega,by omega,by simp,by simp,rfl,⟨dm.start A B,rfl,by simp⟩,aC.refl _,World.ownsRow_nil _ _ _ _⟩
 case round =>
  obtain ⟨i,k,out,o9,hi,hk,rfl,rfl,LN,HM,HE,HW⟩:=hrel;obtain rfl:=LN.symm;have HS1:Hid (w.heap.size<=wr.heap.size):=HE.size;have HLL:Hid (out.length<=24):=by unfold Hid;have:=HM.2.1;omega
  by_cases hil:i<la
  ·obtain ⟨x,hx⟩:∃ x,A[i]?=some x:=⟨_,n9 (by have:=HLA.out;omega)⟩;obtain ⟨bA,oA,rfl,gA⟩:=CI wr HE i x hx;have q1:(i:Int)<(la:Int):=by omega
   by_cases hkl:k<lb
   ·obtain ⟨y,hy⟩:∃ y,B[k]?=some y:=⟨_,n9 (by have:=HLB.out;omega)⟩;obtain ⟨bB,oB,rfl,gB⟩:=HGB wr HE k y hy;have q2:(k:Int)<(lb:Int):=by omega
    have q3:((k:Int) == (lb:Int))=false:=beq_eq_false_iff_ne.2 (by omega);by_cases hxy:x=y
    ·subst hxy;have HN:Hid (fS A B=none):=HM.1.same hx hy;have q4:((x:Int) == (x:Int))=true:=beq_self_eq_true _;clear hx hy;go_wp2_with fail
     go_quiet (fail)
     go_wp2_with fail;go_ret2;obtain rfl:sb=false:=by rw [HSB.out,HN.out];rfl
     exact ⟨_,rfl,HE.draws _,fun M hM=>by rw [HN.out] at hM;cases hM⟩
    ·have q4:((x:Int) == (y:Int))=false:=beq_eq_false_iff_ne.2 (by omega);by_cases hlt:x<y
     ·have HM9:Hid (dm A B (i+1) k (out++[x])/\(out++[x]).length=i+1+k/\∀ z∈out++[x],z<4096):=⟨HM.1.left (by have:=HLB.out;omega) hx (fun z hz=>by rw [hy] at hz;cases hz;exact hlt),by rw [oU];have:=HM.2.1;simp;omega,fun z hz=>(List.mem_append.1 hz).elim (HM.2.2 z) fun h9=>by rw [List.mem_singleton.1 h9];exact HBD _ (by first | exact .inl (oD hx) | exact .inr (oD hy))⟩;have q5:(x:Int)<(y:Int):=by omega
      clear hx hy;go_wp2_with fail
      go_quiet (fail)
      generalize qM:World.drewN _ _=wq;have s8:Hid (aC wr wq):=by rw [<- qM];exact aC.drewN _ _
      clear qM;have gA:=s8.cell gA;have gB:=s8.cell gB;go_wp2_with fail
      go_quiet (fail)
      generalize qM:World.drewN _ _=wt;have HQ1:Hid (aC wq wt):=by rw [<- qM];exact aC.drewN _ _
      clear qM;have gA:=HQ1.cell gA;have gB:=HQ1.cell gB;have xt:Hid (aC w wt):=HE.trans (s8.trans HQ1);have A3:Hid (cS w.heap.size wt o9 (bC out)):=(HW.ext s8).ext HQ1;have HST:Hid (w.heap.size<=wt.heap.size):=xt.size;go_wp2_with (at_builtin;go_must (refine mU rfl wt _ _ _ underlying26 rfl w.heap.size o9 (bC out) (x:Int) _ _ rfl A3 rfl rfl ?c2 HST ?_))
      case c2=>have:=HLL.out;unfold bC;rw [List.length_map];omega
      intro v2 w5 qG o8;have HE5:Hid (aC w w5):=Below.trans xt o8;have HO5:Hid (cS w.heap.size w5 v2 (bC (out++[x]))):=by
       have:bC (out++[x])=bC out++[(x:Int)]:=by simp [bC]
       rw [this];exact qG
      clear qG o8;go_wp2_with fail;go_roundw
      case rel=>exact ⟨i+1,k,out++[x],v2,by omega,by omega,by go_num,by go_num,rfl,HM9,HE5,HO5⟩
      case measure=>simp [intOf];omega
     ·have HM9:Hid (dm A B i (k+1) (out++[y])/\(out++[y]).length=i+(k+1)/\∀ z∈out++[y],z<4096):=⟨HM.1.right (by have:=HLA.out;omega) hy (fun z hz=>by rw [hx] at hz;cases hz;omega),by rw [oU];have:=HM.2.1;simp;omega,fun z hz=>(List.mem_append.1 hz).elim (HM.2.2 z) fun h9=>by rw [List.mem_singleton.1 h9];exact HBD _ (by first | exact .inl (oD hx) | exact .inr (oD hy))⟩;have q5:¬ (x:Int)<(y:Int):=by omega
      clear hx hy;go_wp2_with fail
      go_quiet (fail)
      generalize qM:World.drewN _ _=wq;have s8:Hid (aC wr wq):=by rw [<- qM];exact aC.drewN _ _
      clear qM;have gA:=s8.cell gA;have gB:=s8.cell gB;go_wp2_with fail
      go_quiet (fail)
      generalize qM:World.drewN _ _=wt;have HQ1:Hid (aC wq wt):=by rw [<- qM];exact aC.drewN _ _
      clear qM;have gA:=HQ1.cell gA;have gB:=HQ1.cell gB;have xt:Hid (aC w wt):=HE.trans (s8.trans HQ1);have A3:Hid (cS w.heap.size wt o9 (bC out)):=(HW.ext s8).ext HQ1;have HST:Hid (w.heap.size<=wt.heap.size):=xt.size;go_wp2_with (at_builtin;go_must (refine mU rfl wt _ _ _ underlying26 rfl w.heap.size o9 (bC out) (y:Int) _ _ rfl A3 rfl rfl ?c2 HST ?_))
      case c2=>have:=HLL.out;unfold bC;rw [List.length_map];omega
      intro v2 w5 qG o8;have HE5:Hid (aC w w5):=Below.trans xt o8;have HO5:Hid (cS w.heap.size w5 v2 (bC (out++[y]))):=by
       have:bC (out++[y])=bC out++[(y:Int)]:=by simp [bC]
       rw [this];exact qG
      clear qG o8;go_wp2_with fail;go_roundw
      case rel=>exact ⟨i,k+1,out++[y],v2,by omega,by omega,by go_num,by go_num,rfl,HM9,HE5,HO5⟩
      case measure=>simp [intOf];omega
   ·obtain rfl:k=lb:=by omega
    have HM9:Hid (dm A B (i+1) k (out++[x])/\(out++[x]).length=i+1+k/\∀ z∈out++[x],z<4096):=⟨HM.1.left (by have:=HLB.out;omega) hx (fun z hz=>by have:=(n_.1 hz).1;have:=HLB.out;omega),by rw [oU];have:=HM.2.1;simp;omega,fun z hz=>(List.mem_append.1 hz).elim (HM.2.2 z) fun h9=>by rw [List.mem_singleton.1 h9];exact HBD _ (by first | exact .inl (oD hx) | exact .inr (oD hy))⟩;have q3:((k:Int) == (k:Int))=true:=beq_self_eq_true _;clear hx;go_wp2_with fail
    go_quiet (fail)
    generalize qM:World.drewN _ _=wq;have s8:Hid (aC wr wq):=by rw [<- qM];exact aC.drewN _ _
    clear qM;have gA:=s8.cell gA;go_wp2_with fail
    go_quiet (fail)
    generalize qM:World.drewN _ _=wt;have HQ1:Hid (aC wq wt):=by rw [<- qM];exact aC.drewN _ _
    clear qM;have gA:=HQ1.cell gA;have xt:Hid (aC w wt):=HE.trans (s8.trans HQ1);have A3:Hid (cS w.heap.size wt o9 (bC out)):=(HW.ext s8).ext HQ1;have HST:Hid (w.heap.size<=wt.heap.size):=xt.size;go_wp2_with (at_builtin;go_must (refine mU rfl wt _ _ _ underlying26 rfl w.heap.size o9 (bC out) (x:Int) _ _ rfl A3 rfl rfl ?c2 HST ?_))
    case c2=>have:=HLL.out;unfold bC;rw [List.length_map];omega
    intro v2 w5 qG o8;have HE5:Hid (aC w w5):=Below.trans xt o8;have HO5:Hid (cS w.heap.size w5 v2 (bC (out++[x]))):=by
     have:bC (out++[x])=bC out++[(x:Int)]:=by simp [bC]
     rw [this];exact qG
    clear qG o8;go_wp2_with fail;go_roundw
    case rel=>exact ⟨i+1,k,out++[x],v2,by omega,by omega,by go_num,by go_num,rfl,HM9,HE5,HO5⟩
    case measure=>simp [intOf];omega
  ·obtain rfl:i=la:=by omega
   have q1:¬ (i:Int)<(i:Int):=by omega
   by_cases hkl:k<lb
   ·obtain ⟨y,hy⟩:∃ y,B[k]?=some y:=⟨_,n9 (by have:=HLB.out;omega)⟩;obtain ⟨bB,oB,rfl,gB⟩:=HGB wr HE k y hy;have q2:(k:Int)<(lb:Int):=by omega
    have q3:((k:Int) == (lb:Int))=false:=beq_eq_false_iff_ne.2 (by omega);have HM9:Hid (dm A B i (k+1) (out++[y])/\(out++[y]).length=i+(k+1)/\∀ z∈out++[y],z<4096):=⟨HM.1.right (by have:=HLA.out;omega) hy (fun z hz=>by have:=(n_.1 hz).1;have:=HLA.out;omega),by rw [oU];have:=HM.2.1;simp;omega,fun z hz=>(List.mem_append.1 hz).elim (HM.2.2 z) fun h9=>by rw [List.mem_singleton.1 h9];exact HBD _ (by first | exact .inl (oD hx) | exact .inr (oD hy))⟩;clear hy;go_wp2_with fail
    go_quiet (fail)
    generalize qM:World.drewN _ _=wq;have s8:Hid (aC wr wq):=by rw [<- qM];exact aC.drewN _ _
    clear qM;have gB:=s8.cell gB;go_wp2_with fail
    go_quiet (fail)
    generalize qM:World.drewN _ _=wt;have HQ1:Hid (aC wq wt):=by rw [<- qM];exact aC.drewN _ _
    clear qM;have gB:=HQ1.cell gB;have xt:Hid (aC w wt):=HE.trans (s8.trans HQ1);have A3:Hid (cS w.heap.size wt o9 (bC out)):=(HW.ext s8).ext HQ1;have HST:Hid (w.heap.size<=wt.heap.size):=xt.size;go_wp2_with (at_builtin;go_must (refine mU rfl wt _ _ _ underlying26 rfl w.heap.size o9 (bC out) (y:Int) _ _ rfl A3 rfl rfl ?c2 HST ?_))
    case c2=>have:=HLL.out;unfold bC;rw [List.length_map];omega
    intro v2 w5 qG o8;have HE5:Hid (aC w w5):=Below.trans xt o8;have HO5:Hid (cS w.heap.size w5 v2 (bC (out++[y]))):=by
     have:bC (out++[y])=bC out++[(y:Int)]:=by simp [bC]
     rw [this];exact qG
    clear qG o8;go_wp2_with fail;go_roundw
    case rel=>exact ⟨i,k+1,out++[y],v2,by omega,by omega,by go_num,by go_num,rfl,HM9,HE5,HO5⟩
    case measure=>simp [intOf];omega
   ·obtain rfl:k=lb:=by omega
    have HN:Hid (fS A B=some out):=by
     have h9:=HM.1;have e1:=HLA.out;have e2:=HLB.out;subst e1 e2;exact h9.done
    go_wp2_with fail;go_ret2;obtain rfl:sb=true:=by rw [HSB.out,HN.out];rfl
    exact ⟨_,rfl,HE,fun M hM=>by
     rw [HN.out] at hM;cases hM;exact au.of_owns HW (fun y hy=>by
      obtain ⟨z,hz,rfl⟩:=List.mem_map.1 (show y∈out.map _ from hy)
      have:=HM.2.2 z hz;omega)⟩
theorem Z2q {L:List (List Nat)} {S:List Nat} {i:Nat} (h:L[i]?=some S) (hn:∀ j,j<i->L[j]?≠some S):lN L S=i:=by
 unfold lN;have hi:=(n_.1 h);rw [List.findIdx_eq hi.1];refine ⟨by rw [hi.2];exact beq_self_eq_true _,fun j hj=>?_⟩;rw [beq_eq_false_iff_ne];intro e;exact hn j hj (by rw [n9 (Nat.lt_trans hj hi.1),e])
theorem j1_ (L:List (List Nat)) (S:List Nat) (hm:S∈L) (hl:∀ T∈L,T.length=S.length) (hL:L.length<=1000) (hS:S.length<=12) (u v:Value) (w:World) (h:bQ w u (bV L)) (h':au w v (bC S)) :
  oW 70 #[u,v] w (.int .i64 (lN L S:Nat)):=by
 obtain ⟨aa,ca,rfl,p1,p2,p3,p5⟩:=bT.open h;obtain ⟨ab,cb,rfl,r1,r2,r3,-,r5⟩:=h'.open;unfold maxLen at p2 r2;have HCA:=n8 p5;have HCB:=n8 r5;obtain ⟨la,qV⟩:∃ l,L.length=l:=⟨_,rfl⟩;obtain ⟨lb,hlb⟩:∃ l,S.length=l:=⟨_,rfl⟩;have HLA:=n8 qV;have HLB:=n8 hlb;have HM:=n8 hm;have HLL:Hid (∀ T∈L,T.length=lb):=by rw [<- hlb];exact hl
 have e1:(bV L).length=la:=by unfold bV;rw [List.length_map];exact qV
 have e2:(bC S).length=lb:=by unfold bC;rw [List.length_map];exact hlb
 rw [e1] at p1 |-;rw [e2] at r1 |-;rw [qV] at hL;rw [hlb] at hS;have CI:Hid (∀ W,aC w W->∀ (i:Nat) (T:List Nat),L[i]?=some T->∃ b o g c,aa=some ⟨b,o,none⟩/\W.cell? ⟨b,o+i,none⟩=some (.slice g lb c)/\lb<=c/\c<=maxLen/\∀ (k x:Nat),T[k]?=some x->∃ b2 o2,g=some ⟨b2,o2,none⟩/\W.cell? ⟨b2,o2+k,none⟩=some (.int .i64 x)):=fun W hW i T hT=>by
  have DO:(bV L)[i]?=some (bC T):=by unfold bV;rw [oE,hT];rfl
  obtain ⟨b,o,he,-,hc⟩:=HCA (by intro e;rw [e] at DO;simp at DO);obtain ⟨vt,ht,hcell⟩:=hc i _ DO;obtain ⟨g,c,rfl,t1,t2,-,-,t5⟩:=ht.open;have hlt:(bC T).length=lb:=by unfold bC;rw [List.length_map];exact HLL T (oD hT)
  rw [hlt] at hcell t1;refine ⟨b,o,g,c,he,hW.cell hcell,t1,t2,fun k x hx=>?_⟩;obtain ⟨b2,o2,hg,-,pT⟩:=t5 (by intro e;have:=jU hx;rw [e] at this;simp at this);exact ⟨b2,o2,hg,hW.cell (pT k _ (jU hx))⟩
 have HGB:Hid (∀ W,aC w W->∀ (i x:Nat),S[i]?=some x->∃ b o,ab=some ⟨b,o,none⟩/\W.cell? ⟨b,o+i,none⟩=some (.int .i64 x)):=fun W hW i x hx=>by
  obtain ⟨b,o,he,-,hc⟩:=HCB (by intro e;have:=jU hx;rw [e] at this;simp at this);exact ⟨b,o,he,hW.cell (hc i _ (jU hx))⟩
 clear h h' p5 r5 qV hlb e1 e2 HCA HCB p3 r3 hm hl
 go_enter func70,ntmps70
 go_wp2_with fail
 go_loopw [5,6,7] (fun t s0 k0 wr=>∃ (i:Nat) (y1 y2:Value),i<=la/\t=.int .i64 (i:Int)/\s0=y1/\k0=y2/\Hid (aC w wr)/\Hid (∀ j,j<i->L[j]?≠some S)) (fun t _ _ _=>la+1-(intOf t).toNat)
 case atStart=>exact ⟨0,_,_,by omega,by simp,rfl,rfl,aC.refl _,fun j hj=>absurd hj (by omega)⟩
 case round =>
  obtain ⟨i,y1,y2,hi,rfl,rm,qg,HE,HN⟩:=hrel;obtain rfl:=rm.symm;obtain rfl:=qg.symm;obtain ⟨wo,rfl⟩:∃ wo:World,wo=wr:=⟨_,rfl⟩;by_cases hil:i<la
  ·obtain ⟨T,hT⟩:∃ T,L[i]?=some T:=⟨_,n9 (by have:=HLA.out;omega)⟩;have HT:=n8 hT;have HTL:=n8 (HLL T (oD hT));have q1:(i:Int)<(la:Int):=by omega
   clear hT;go_wp2_with fail
   go_loopw [6,7] (fun s t wr=>∃ (k:Nat) (b:Bool),k<=lb/\s=.bool b/\t=.int .i64 (k:Int)/\Hid (aC w wr)/\Hid (b=true↔T.take k=S.take k)) (fun _ t _=>lb+1-(intOf t).toNat)
   case atStart=>exact ⟨0,true,by omega,rfl,by simp,HE,by simp [Hid]⟩
   case round =>
    obtain ⟨k,b,hk,rfl,rfl,HF,HB⟩:=hrel;by_cases hkl:k<lb
    ·obtain ⟨x,hx⟩:∃ x,T[k]?=some x:=⟨_,n9 (by have:=HTL.out;omega)⟩;obtain ⟨y,hy⟩:∃ y,S[k]?=some y:=⟨_,n9 (by have:=HLB.out;omega)⟩;obtain ⟨bA,oA,gr,gc,rfl,gA,gl,gm,gx⟩:=CI wr HF i T HT;unfold maxLen at gm;obtain ⟨b2,o2,rfl,gX⟩:=gx k x hx;obtain ⟨bB,oB,rfl,gB⟩:=HGB wr HF k y hy;have q2:(k:Int)<(lb:Int):=by omega
     have yz:Hid ((b && ((x:Int) == (y:Int)))=true↔T.take (k+1)=S.take (k+1)):=by
      unfold Hid;rw [oG,oG,hx,hy,Bool.and_eq_true,HB.out,beq_iff_eq];constructor
      ·rintro ⟨h1,h2⟩;rw [h1,show x=y by omega]
      ·intro h1;have h2:=List.append_inj h1 (by rw [oF,oF,HTL.out,HLB.out]);refine ⟨h2.1,?_⟩;have h3:=h2.2;simp at h3;omega
     clear hx hy gx;cases b with
     | true =>
      obtain ⟨eb,Lr⟩:∃ eb,((x:Int) == (y:Int))=eb:=⟨_,rfl⟩;rw [Lr,Bool.true_and] at yz;go_wp2_with fail
      (try go_quiet (fail);go_wp2_with fail)
      go_roundw
      case rel=>exact ⟨k+1,eb,by omega,rfl,by go_num,HF.draws _,yz⟩
      case measure=>simp [intOf];omega
     | false =>
      rw [Bool.false_and] at yz;go_wp2_with fail
      (try go_quiet (fail);go_wp2_with fail)
      go_roundw
      case rel=>exact ⟨k+1,false,by omega,rfl,by go_num,HF.draws _,yz⟩
      case measure=>simp [intOf];omega
    ·obtain rfl:k=lb:=by omega
     have KJ:Hid (b=true↔T=S):=by
      unfold Hid;rw [HB.out,List.take_of_length_le (by have:=HTL.out;omega),List.take_of_length_le (by have:=HLB.out;omega)]
     cases b with
     | true =>
      have HP:Hid (lN L S=i):=Z2q (by rw [HT.out,KJ.out.1 rfl]) HN;go_wp2_with fail;go_ret;exact ⟨by rw [HP.out];rfl,HF⟩
     | false =>
      have M4:Hid (∀ j,j<i+1->L[j]?≠some S):=fun j hj e=>by
       by_cases yA:j=i
       ·subst yA;rw [HT.out] at e;have:=KJ.2 (oL e);cases this
       ·exact HN j (by omega) e
      go_wp2_with fail;go_roundw
      case rel=>exact ⟨i+1,_,_,by omega,by go_num,rfl,rfl,HF,M4⟩
      case measure=>simp [intOf];omega
  ·exfalso;obtain ⟨j,hj⟩:=List.getElem?_of_mem HM;exact HN j (by have:=(n_.1 hj).1;have:=HLA.out;omega) hj
theorem Z2h (A:List Nat) (hA:A.length<=24) (u:Value) (w:World) (h:au w u (bC A)) :
  oW 71 #[u] w (.bool (eM A)):=by
 obtain ⟨aa,ca,rfl,p1,p2,p3,-,p5⟩:=h.open;unfold maxLen at p2;have HCA:=n8 p5;obtain ⟨la,qV⟩:∃ l,A.length=l:=⟨_,rfl⟩;have HLA:=n8 qV;have e1:(bC A).length=la:=by unfold bC;rw [List.length_map];exact qV
 rw [e1] at p1 |-;rw [qV] at hA;have CI:Hid (∀ W,aC w W->∀ (i x:Nat),A[i]?=some x->∃ b o,aa=some ⟨b,o,none⟩/\W.cell? ⟨b,o+i,none⟩=some (.int .i64 x)):=fun W hW i x hx=>by
  obtain ⟨b,o,he,-,hc⟩:=HCA (by intro e;have:=jU hx;rw [e] at this;simp at this);exact ⟨b,o,he,hW.cell (hc i _ (jU hx))⟩
 clear h p5 qV e1 HCA p3
 go_enter func71,ntmps71
 go_wp2_with fail
 go_loopw [3,4,5] (fun s t k0 wr=>∃ (i:Nat) (b:Bool) (y1:Value),i<=la/\s=.bool b/\t=.int .i64 (i:Int)/\k0=y1/\Hid (aC w wr)/\Hid ((b ^^ eM (A.drop i))=eM A)) (fun _ t _ _=>la+1-(intOf t).toNat)
 case atStart=>exact ⟨0,false,_,by omega,rfl,by simp,rfl,aC.refl _,by simp [Hid]⟩
 case round =>
  obtain ⟨i,b,y1,hi,rfl,rfl,rm,HE,HB⟩:=hrel;obtain rfl:=rm.symm;obtain ⟨wo,rfl⟩:∃ wo:World,wo=wr:=⟨_,rfl⟩;by_cases hil:i<la
  ·obtain ⟨x,hx⟩:∃ x,A[i]?=some x:=⟨_,n9 (by have:=HLA.out;omega)⟩;have q1:(i:Int)<(la:Int):=by omega
   have HX:=n8 hx;have tM:Hid ((b ^^ gd (iL x (A.drop (i+1))))=(eM A ^^ eM (A.drop (i+1)))):=by
    unfold Hid;have h9:=HB.out;rw [d0_ (A.drop i),Z1P hx,d2_,<- d0_] at h9;rw [<- h9];cases b <;> cases gd (iL x (A.drop (i+1))) <;> cases eM (A.drop (i+1)) <;> rfl
   clear hx;go_wp2_with fail
   go_loopw [3,5] (fun s t wr=>∃ (k:Nat) (b:Bool),i<k/\k<=la/\s=.bool b/\t=.int .i64 (k:Int)/\Hid (aC w wr)/\Hid ((b ^^ gd (iL x (A.drop k)))=(eM A ^^ eM (A.drop (i+1))))) (fun _ t _=>la+1-(intOf t).toNat)
   case atStart=>exact ⟨i+1,b,by omega,by omega,rfl,by go_num,HE,tM⟩
   case round =>
    obtain ⟨k,c,hik,hk,rfl,rfl,HF,HC⟩:=hrel;by_cases hkl:k<la
    ·obtain ⟨y,hy⟩:∃ y,A[k]?=some y:=⟨_,n9 (by have:=HLA.out;omega)⟩;obtain ⟨bA,oA,rfl,gA⟩:=CI wr HF i x HX;obtain ⟨bB,oB,JI,gB⟩:=CI wr HF k y hy;simp only [Option.some.injEq,Addr.mk.injEq,and_true] at JI;obtain ⟨rfl,rfl⟩:=JI;have q2:(k:Int)<(la:Int):=by omega
     have hst:gd (iL x (A.drop k))=(gd (iL x (A.drop (k+1))) ^^ decide (y<x)):=by
      rw [kE hy,Z0b,d2_];by_cases yN:y<x
      ·rw [if_pos yN,oS yN];rfl
      ·rw [if_neg yN,oR yN];rfl
     have h9:=HC.out;rw [hst] at h9;clear hy;by_cases yN:y<x
     ·have q3:(y:Int)<(x:Int):=by omega
      rw [oS yN] at h9;have HC9:Hid (((!c) ^^ gd (iL x (A.drop (k+1))))=(eM A ^^ eM (A.drop (i+1)))):=by
       unfold Hid;rw [<- h9];cases c <;> cases gd (iL x (A.drop (k+1))) <;> rfl
      clear h9 hst yN;go_wp2_with fail
      (try go_quiet (fail);go_wp2_with fail)
      go_roundw
      case rel=>exact ⟨k+1,!c,by omega,by omega,rfl,by go_num,HF.draws _,HC9⟩
      case measure=>simp [intOf];omega
     ·have q3:¬ (y:Int)<(x:Int):=by omega
      rw [oR yN,Bool.xor_false] at h9;have HC9:=n8 h9;clear h9 hst yN;go_wp2_with fail
      (try go_quiet (fail);go_wp2_with fail)
      go_roundw
      case rel=>exact ⟨k+1,c,by omega,by omega,rfl,by go_num,HF.draws _,HC9⟩
      case measure=>simp [intOf];omega
    ·obtain rfl:k=la:=by omega
     have yz:Hid ((c ^^ eM (A.drop (i+1)))=eM A):=by
      unfold Hid;have h9:=HC.out;rw [List.drop_eq_nil_of_le (by have:=HLA.out;omega)] at h9;have h8:(c ^^ gd (iL x []))=c:=by cases c <;> rfl
      rw [h8] at h9;rw [h9];cases eM A <;> cases eM (A.drop (i+1)) <;> rfl
     go_wp2_with fail;go_roundw
     case rel=>exact ⟨i+1,c,_,by omega,rfl,by go_num,rfl,HF,yz⟩
     case measure=>simp [intOf];omega
  ·obtain rfl:i=la:=by omega
   have HV:Hid (eM A=b):=by
    unfold Hid;have h9:=HB.out;rw [List.drop_eq_nil_of_le (by have:=HLA.out;omega)] at h9;rw [<- h9];cases b <;> rfl
   go_wp2_with fail;go_ret;exact ⟨by rw [HV.out];rfl,HE⟩
def lZ (w:World) (b N n k:Nat) (L:List Nat):Prop:=∃ D:DataW Unit,w.ownsMap prog 100 (plainElem prog 3) b N D/\IsMap D/\(∀ s∈L,D.atKey (.int .u64 (s:Int)) (.lit (.int .i64 0))=.lit (.int .i64 (be n k s:Int)))/\Tidy D/\Maps.size D=L.length/\∀ x:Nat,has D (.int .u64 (x:Int))=true->x∈L
def mZ (w:World) (v:Value) (n k:Nat):Prop:=∃ b N,v=.map (some b)/\lZ w b N n k (aJ n k)
theorem mZ.one {w:World} {v:Value} {n k:Nat} (h:mZ w v n k):e_ w v n k:=by
 obtain ⟨b,N,hv,D,h1,h2,h3,-⟩:=h;exact ⟨b,N,hv,D,h1,h2,h3⟩
theorem lZ.ext {w w':World} {b N n k:Nat} {L:List Nat} (h:lZ w b N n k L) (he:aC w w'):lZ w' b N n k L:=by
 obtain ⟨D,h1,h2⟩:=h;exact ⟨D,h1.kept (he.grown none) (by simp),h2⟩
theorem mZ.ext {w w':World} {v:Value} {n k:Nat} (h:mZ w v n k) (he:aC w w'):mZ w' v n k:=by
 obtain ⟨b,N,hv,h1⟩:=h;exact ⟨b,N,hv,h1.ext he⟩
theorem lZ.made (w:World) (n k:Nat):lZ (w.alloc (.map #[] 0)) w.heap.size 0 n k []:=⟨.map [],World.ownsMap_made _ _ _ _,⟨_,rfl⟩,(fun s hs=>by cases hs),tidy_empty,rfl,fun x hx=>by cases hx⟩
section
variable {P:Program} {ops O:Array Oper} {Q:Exit->Act->World->Prop} {md:Region.Mode} {S:World->Prop} {z n:Nat}
def Z4I (md:Region.Mode) (ops:Array Oper) (a i:Nat):Bool:=match ops[a]? with
 | some o=>o.after.any fun e=>Region.binds md e && e.on == i
 | none=>false
def nV (md:Region.Mode) (ops:Array Oper):Nat->List Nat->Nat->Bool
 | a,[],i=>Z4I md ops a i
 | a,b::bs,i=>Z4I md ops a b && nV md ops b bs i
theorem C2_:∀ (bs:List Nat) (a i:Nat),nV md ops a bs i=true->gi md ops (bs.length+1) a i=true
 | [],a,i,h=>by
  unfold nV Z4I at h;unfold gi;cases hq:ops[a]? with
  | none=>rw [hq] at h;cases h
  | some o =>
   rw [hq] at h;obtain ⟨e,he,hb⟩:=Array.any_eq_true'.1 h;exact Array.any_eq_true'.2 ⟨e,he,by simp only [Bool.and_eq_true,Bool.or_eq_true] at hb |-;exact ⟨hb.1,Or.inl hb.2⟩⟩
 | b::bs,a,i,h=>by
  unfold nV Z4I at h;rw [Bool.and_eq_true] at h;have ih:=C2_ bs b i h.2;have h:=h.1;show gi md ops (bs.length+1+1) a i=true;unfold gi;cases hq:ops[a]? with
  | none=>rw [hq] at h;cases h
  | some o =>
   rw [hq] at h;obtain ⟨e,he,hb⟩:=Array.any_eq_true'.1 h;simp only [Bool.and_eq_true,beq_iff_eq] at hb;exact Array.any_eq_true'.2 ⟨e,he,by simp only [Bool.and_eq_true,Bool.or_eq_true];exact ⟨hb.1,Or.inr (by rw [hb.2];exact ih)⟩⟩
theorem lj (hO:Hid (ops=O)) (i:Nat) (bs:List Nat) {oi:Oper} {v:Value} {f:Nat} {l:Array Bool} {a:Act} {w:World} (hi:ops[i]?=some oi)
  (hs:Region.noSelect O=true) (hc:mu md O l=true) (hf:Region.free md O l i=true) (hr:(Region.ready md O l).contains i=true) (hz:nV md O z bs i=true)
  (hQ:∀ c a w,Q (.panic c) (a.put oi.dst v) w->Q (.panic c) a w) (hy:YieldsIf P O S oi v a) (hS:S w)
  (h:bL P md ops Q S z f (l.setIfInBounds i true) (a.put oi.dst v) w):bL P md ops Q S z (f+1) l a w:=by
 have hO:ops=O:=hO;subst hO;exact F4_ hi (Region.noSelect_spec hs) hQ (C2_ bs z i hz) f l a w (Region.free_spec hi hf) (O6_ hc) (by simpa using hr) hy hS h
theorem F5_ (hO:Hid (ops=O)) (i:Nat) {o:Oper} {f:Nat} {l:Array Bool} {a:Act} {w:World} (hr:Region.ready md O l=[i]) (ph:Region.ready md O (l.setIfInBounds i true)=[]) (hz:(l.setIfInBounds i true).getD z false=true) (ho:ops[i]?=some o)
  (h:∀ K:Act->World->Prop,Shut (∀ b u,Q .normal b u->K b u)->if Region.wanted o (yielded O a.tmps)=true then Oper.wp P o a w K Q else K (a.put o.dst undef) w):bL P md ops Q S z (f+1) l a w:=by
 have hO:ops=O:=hO;subst hO;exact fL i hr ph hz ho h
end
theorem W5_ {x:Int} {K:Nat} (h:x.natAbs<10^K) (hK:1<=K):(aD x).size<=K+1:=by
 have h1:=ix x.natAbs K h hK;have h2:=eK x;omega
theorem Z4r {n ka kb:Nat} {A B:List Int} (hA:iB A) (hB:iB B) {i k:Nat} (hi:i<=924) (hk:k<=924) (h2:(aJ n kb).length<=924):∀ x∈db n ka kb A B i (cV n ka kb A B i) k,(aD x).size<=2000:=by
 intro x hx;have J4:eA (10^400) A:=fun y hy=>Nat.le_of_lt (hA y hy);have yJ:eA (10^400) B:=fun y hy=>Nat.le_of_lt (hB y hy);have h9:=i2_ (n:=n) (ka:=ka) (kb:=kb) J4 yJ (p3_ (n:=n) (ka:=ka) (kb:=kb) J4 yJ i) i k x hx;have e1:=Nat.mul_le_mul hi (Nat.mul_le_mul_right (10^400*10^400) h2);have e2:=Nat.mul_le_mul_right (10^400*10^400) hk;have e3:924*(924*(10^400*10^400))+924*(10^400*10^400)<10^810:=by decide +kernel
 exact oI (W5_ (Nat.lt_of_le_of_lt (oI h9 (Nat.add_le_add e1 e2)) e3) (by decide)) (by decide)
theorem Z2d {x y:Int} (hx:x.natAbs<10^400) (hy:y.natAbs<10^400) (o:Bool):(aD (x*y)).size<=2000/\(aD (bu (x*y) o)).size<=2000:=by
 have h1:(x*y).natAbs<10^810:=by
  rw [Int.natAbs_mul];exact Nat.lt_of_le_of_lt (Nat.mul_le_mul (Nat.le_of_lt hx) (Nat.le_of_lt hy)) (by decide +kernel)
 exact ⟨oI (W5_ h1 (by decide)) (by decide),oI (W5_ (by rw [mQ];exact h1) (by decide)) (by decide)⟩
theorem Z4w {n ka kb i k s t:Nat} {A B acc:List Int} {x y:Int} (hs:(aJ n ka)[i]?=some s) (ht:(aJ n kb)[k]?=some t) (hx:A[i]?=some x) (hy:B[k]?=some y) :
  jZ n ka kb A B i k acc=if s &&& t≠0\/x=0\/y=0 then acc else gM acc (be n (ka+kb) (s ||| t)) (bu (x*y) (cK s t)):=by
 unfold jZ;rw [show (aJ n ka).getD i 0=s by rw [oC,hs];rfl,show (aJ n kb).getD k 0=t by rw [oC,ht];rfl,show A.getD i 0=x by rw [oC,hx];rfl,show B.getD k 0=y by rw [oC,hy];rfl]
theorem Z2R {x:Int} (h:x=0):((aD x).toList == [48])=true:=by rw [lz,h];rfl
theorem Z2Q {x:Int} (h:x≠0):((aD x).toList == [48])=false:=by rw [lz];exact oR h
end Go.Proofs.YtjlkkofmojgipaaGreatDoor
