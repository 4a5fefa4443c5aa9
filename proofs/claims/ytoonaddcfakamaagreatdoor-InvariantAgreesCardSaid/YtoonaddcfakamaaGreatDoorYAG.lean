import Derived.Test.YtoonaddcfakamaaGreatDoorYAF
import Derived.Test.YtoonaddcfakamaaGreatDoorYAA
import Derived.Lib.SliceRun
import Derived.WalkSpells
import Derived.Laws.AppendOwnNone
import Derived.Test.YtoonaddcfakamaaGreatDoorProg
set_option linter.unusedVariables false
set_option linter.unusedSimpArgs false
set_option maxRecDepth 1000000
set_option maxHeartbeats 4000000
namespace Go.Proofs.YtoonaddcfakamaaGreatDoor
open Go.RowKit Go.Proofs.Tryz
theorem A8_ {n c d a f:Nat} {m m2:oP} (og:bV n m=true) (ha:bQ c d m (m.length-d)=some a) (qC:dL c d (bF m d a) (m.length-(d+1))=some (m2,true)):eI n c d (f+1) m=eI n c d f m2:=by
 rw [eI,if_pos og,ha];simp only;rw [qC]
theorem G2_ {n c d a f K C U:Nat} {m m2:oP} (hK:K<=400000000) (h1:1<=K) (hd:d<m.length) (og:bV n m=true) (ha:bQ c d m (m.length-d)=some a) (qC:dL c d (bF m d a) (m.length-(d+1))=some (m2,false))
  (l2:m2.length=m.length) (hw:ae n m2) (hC:ea d C m2) (hU:eK d U m2) (hp:aD m2 d c≠0) (hz:∀ i,d<i->i<m.length->aD m2 i c=0) (yO:C<10^K) (rP:U+2<10^K) :
  ∃ m',eI n c d (f+1) m=some (m',true)/\mT n d c C U m m':=by
 obtain ⟨m4,e4,s4⟩:=Z1a hK h1 (by rw [l2];exact hd) hw hC hU hp (by rw [l2];exact hz) yO rP;have ql:bV n m2=true:=lu hK h1 hw hC hU yO (by omega);refine ⟨m4,?_,⟨s4.len.trans l2,s4.wid,s4.low,s4.upp,s4.pos,by rw [<- l2];exact s4.zero,s4.red⟩⟩;rw [eI,if_pos og,ha];simp only;rw [qC];simp only;rw [if_pos ql,e4]
theorem A7_ {n c d K U Y : Nat} (hK : K <= 400000000) (h1 : 1 <= K) (zF : 2 * Y + 2 < 10 ^ K) (rP : U + 2 < 10 ^ K) (pos : Bool) :
    ∀ (F : Nat) (m : oP) (B M a : Nat), d < m.length -> ae n m -> ea d B m -> eK d U m -> iz d c M m -> lE d c pos m -> bQ c d m (m.length - d) = some a -> B * (M * M * (aD m a c).natAbs) <= Y -> (aD m a c).natAbs < F ->
      ∃ m', eI n c d F m = some (m', true) /\ mT n d c (2 * Y) U m m'
  | 0, m, B, M, a, _, _, _, _, _, _, _, _, hF => by omega
  | f + 1, m, B, M, a, hd, hw, hB, hU, hM, hS, ha, hY, hF => by
    obtain ⟨b1, b2, b3, b4⟩ := gY ha;have pT : a < m.length := by omega
    obtain ⟨p, hp⟩ : ∃ p, p = (aD m a c).natAbs := ⟨_, rfl⟩;rw [<- hp] at hY hF;have hp1 : 1 <= p := by omega
    have EC : p <= M := by rw [hp]; exact hM a b1 pT
    have Fm : M * B <= Y := by
      refine n8 ?_ hY;rw [Nat.mul_comm M B];refine Nat.mul_le_mul_left _ ?_
      calc M = M * 1 * 1 := by omega
        _ <= M * M * p := Nat.mul_le_mul (Nat.mul_le_mul_left _ (by omega)) hp1
    have K7 : B <= Y := n8 (Nat.le_mul_of_pos_left B (by omega)) Fm;have tG : ∀ i, d <= i -> i < m.length -> Z2L (aD m i c) (aD m a c) := by
      intro i h2 h3;have s1 := hS i h2 h3;have s2 := hS a b1 pT;cases pos
      · exact .inr ⟨by simpa using s1, by have : aD m a c <= 0 := by simpa using s2
                                          omega⟩
      · exact .inl ⟨by simpa using s1, by have : 0 <= aD m a c := by simpa using s2
                                          omega⟩
    have hQ : ∀ i, d <= i -> i < m.length -> (aQ (aD m i c) (aD m a c)).natAbs <= M / p := by
      intro i h2 h3;rw [Nat.le_div_iff_mul_le (by omega), hp];exact n8 (lf _ _ (tG i h2 h3)).1 (hM i h2 h3)
    obtain ⟨m2, rest, e1, l2, w2, vM, vL, p2, r2, c2, z2, t2⟩ := L5_ hK h1 hd hw hB hU hM ha (by omega) hQ;have zV : (B + M / p * B) * p <= 2 * (M * B) := by
      rw [Nat.add_mul];have h5 : B * p <= M * B := by rw [Nat.mul_comm M B]; exact Nat.mul_le_mul_left _ EC
      have h6 : M / p * B * p <= M * B := by
        rw [Nat.mul_right_comm];exact Nat.mul_le_mul_right _ (Nat.div_mul_le_self M p)
      omega
    have og : bV n m = true := lu hK h1 hw hB hU (by omega) (by omega);cases rest with
    | false =>
      have zU : B + M / p * B <= 2 * Y := by
        have : B + M / p * B <= (B + M / p * B) * p := Nat.le_mul_of_pos_right _ (by omega);omega
      exact G2_ hK h1 hd og ha e1 l2 w2 (fun i h2 h3 => (vM i h2 h3).mono zU) vL (by rw [p2]; exact b3) (z2 rfl) (by omega) rP
    | true =>
      obtain ⟨i, i1, i2, i3⟩ := t2 rfl;obtain ⟨k, k1, k2, k3⟩ := c2 i i1 i2;obtain ⟨a', wD⟩ : ∃ a', bQ c d m2 (m2.length - d) = some a' := by
        cases hb : bQ c d m2 (m2.length - d) with
        | none => exact absurd (jh hb i (by omega) (by omega)) i3
        | some a' => exact ⟨a', rfl⟩
      obtain ⟨q1, q2, q3, q4⟩ := gY wD;obtain ⟨p', qj⟩ : ∃ p', p' = (aD m2 a' c).natAbs := ⟨_, rfl⟩;have xN : p' <= (aD m2 i c).natAbs := by rw [qj]; exact q4 i (by omega) (by omega) i3
      have hfs := lf _ _ (tG k k1 k2);have hlt : (aD m2 i c).natAbs < p := by rw [k3, hp]; exact (iC _ _ b3).2
      have vq : 2 * p' <= M := by
        have qx : aD m k c ≠ 0 := by
          intro h0;have h9 := hfs.2.1;rw [<- k3, h0] at h9;simp only [Int.natAbs_zero] at h9;omega
        have h7 := hfs.2.2.2 (b4 k k1 (by omega) qx);have h8 := hM k k1 k2;rw [<- k3] at h7;omega
      have qR : iz d c p m2 := by
        intro j j1 j2;by_cases hj : j = d;· rw [hj, p2, hp]; exact n9 _
        · obtain ⟨k', vP, vO, rX⟩ := c2 j (by omega) (by omega)
          rw [rX, hp]; exact Nat.le_of_lt (iC _ _ b3).2
      have s7 : lE d c pos m2 := by
        intro j j1 j2;by_cases hj : j = d;· rw [hj, p2]; exact hS a b1 pT
        · obtain ⟨k', vP, vO, rX⟩ := c2 j (by omega) (by omega)
          rw [rX];have s2 := hS a b1 pT;have h9 := (lf _ _ (tG k' vP vO)).2.2.1;cases pos
          · have : aD m a c <= 0 := by simpa using s2
            have : bK (aD m k' c) (aD m a c) <= 0 := by rcases h9 with ⟨g1, g2⟩ | ⟨g1, g2⟩ <;> omega
            simpa using this
          · have : 0 <= aD m a c := by simpa using s2
            have : 0 <= bK (aD m k' c) (aD m a c) := by rcases h9 with ⟨g1, g2⟩ | ⟨g1, g2⟩ <;> omega
            simpa using this
      have zG : (B + M / p * B) * (p * p * (aD m2 a' c).natAbs) <= Y := by
        rw [<- qj]
        calc (B + M / p * B) * (p * p * p') = (B + M / p * B) * p * (p * p') := by simp only [Nat.mul_assoc]
          _ <= 2 * (M * B) * (p * p') := Nat.mul_le_mul_right _ zV
          _ = M * B * p * (2 * p') := by simp only [Nat.mul_assoc, Nat.mul_left_comm, Nat.mul_comm]
          _ <= M * B * p * M := Nat.mul_le_mul_left _ vq
          _ = B * (M * M * p) := by simp only [Nat.mul_assoc, Nat.mul_left_comm, Nat.mul_comm]
          _ <= Y := hY
      obtain ⟨m', e', s'⟩ := A7_ hK h1 zF rP pos f m2 (B + M / p * B) p a' (by omega) w2 vM vL qR s7 wD zG (by omega);exact ⟨m', (A8_ og ha e1).trans e', ⟨s'.len.trans l2, s'.wid, s'.low, s'.upp, s'.pos, by rw [<- l2]; exact s'.zero, s'.red⟩⟩
theorem Z43 {n c d K U B F:Nat} {m:oP} (hK:K<=400000000) (h1:1<=K) (zF:2*(3*(B*B*(B*B)))+2<10^K) (xj:B+2<10^K) (rP:U+2<10^K) (hF:B<F) (hd:d<m.length) (hw:ae n m) (hB:ea d B m) (hU:eK d U m) :
  (eI n c d F m=some (m,false)/\∀ i,d<=i->i<m.length->aD m i c=0)\/∃ m',eI n c d F m=some (m',true)/\mT n d c (2*(3*(B*B*(B*B)))) U m m':=by
 obtain ⟨f,rfl⟩:∃ f,F=f+1:=⟨F-1,by omega⟩;have og:bV n m=true:=lu hK h1 hw hB hU (by omega) (by omega);cases ha:bQ c d m (m.length-d) with
 | none=>exact .inl ⟨by rw [eI,if_pos og,ha],fun i h2 h3=>jh ha i h2 (by omega)⟩
 | some a =>
  right;obtain ⟨b1,b2,b3,b4⟩:=gY ha;have pT:a<m.length:=by omega
  obtain ⟨p,hp⟩:∃ p,p=(aD m a c).natAbs:=⟨_,rfl⟩;have hM:iz d c B m:=fun i h2 h3=>(hB i h2 h3).getD c;have hp1:1<=p:=by omega
  have Ay:p<=B:=by rw [hp];exact hM a b1 pT
  have hQ:∀ i,d<=i->i<m.length->(aQ (aD m i c) (aD m a c)).natAbs<=(2*B) / p:=by
   intro i h2 h3;rw [Nat.le_div_iff_mul_le (by omega),hp];have h5:=(iC (aD m i c) (aD m a c) b3).1;have h6:=hM i h2 h3;omega
  obtain ⟨m2,rest,e1,l2,w2,vM,vL,p2,r2,c2,z2,t2⟩:=L5_ hK h1 hd hw hB hU hM ha xj hQ;have zV:(B+(2*B) / p*B)*p<=3*(B*B):=by
   rw [Nat.add_mul];have h5:B*p<=B*B:=Nat.mul_le_mul_left _ Ay;have h6:(2*B) / p*B*p<=2*B*B:=by
    rw [Nat.mul_right_comm];exact Nat.mul_le_mul_right _ (Nat.div_mul_le_self _ p)
   have h7:2*B*B=2*(B*B):=Nat.mul_assoc _ _ _;omega
  have DH:B*B<=B*B*(B*B):=Nat.le_mul_of_pos_right _ (Nat.mul_pos (by omega) (by omega));cases rest with
  | false =>
   have zU:B+(2*B) / p*B<=2*(3*(B*B*(B*B))):=by
    have:B+(2*B) / p*B<=(B+(2*B) / p*B)*p:=Nat.le_mul_of_pos_right _ (by omega);omega
   exact G2_ hK h1 hd og ha e1 l2 w2 (fun i h2 h3=>(vM i h2 h3).mono zU) vL (by rw [p2];exact b3) (z2 rfl) (by omega) rP
  | true =>
   obtain ⟨i,i1,i2,i3⟩:=t2 rfl;obtain ⟨k,k1,k2,k3⟩:=c2 i i1 i2;obtain ⟨a',wD⟩:∃ a',bQ c d m2 (m2.length-d)=some a':=by
    cases hb:bQ c d m2 (m2.length-d) with
    | none=>exact absurd (jh hb i (by omega) (by omega)) i3
    | some a'=>exact ⟨a',rfl⟩
   obtain ⟨q1,q2,q3,q4⟩:=gY wD;obtain ⟨p',qj⟩:∃ p',p'=(aD m2 a' c).natAbs:=⟨_,rfl⟩;have xN:p'<=(aD m2 i c).natAbs:=(by rw [qj];exact q4 i (by omega) (by omega) i3);have hlt:(aD m2 i c).natAbs<p:=(by rw [k3,hp];exact (iC _ _ b3).2);have qR:iz d c p m2:=by
    intro j j1 j2;by_cases hj:j=d;·rw [hj,p2,hp];exact n9 _
    ·obtain ⟨k',vP,vO,rX⟩:=c2 j (by omega) (by omega);rw [rX,hp];exact Nat.le_of_lt (iC _ _ b3).2
   have s7:lE d c (decide (0<aD m a c)) m2:=by
    intro j j1 j2;have vk:0<aD m a c->0<=aD m2 j c:=by
     intro hpos;by_cases hj:j=d;·rw [hj,p2];omega
     ·obtain ⟨k',vP,vO,rX⟩:=c2 j (by omega) (by omega);rw [rX];exact (jn _ _ hpos).1
    have Eg:aD m a c<0->aD m2 j c<=0:=by
     intro ou;by_cases hj:j=d;·rw [hj,p2];omega
     ·obtain ⟨k',vP,vO,rX⟩:=c2 j (by omega) (by omega);rw [rX];exact (m_ _ _ ou).2
    by_cases hpos:0<aD m a c;·simp only [hpos,decide_true,if_true];exact vk hpos
    ·simp only [hpos,decide_false];exact Eg (by omega)
   have zG:(B+(2*B) / p*B)*(p*p*(aD m2 a' c).natAbs)<=3*(B*B*(B*B)):=by
    rw [<- qj]
    calc (B+(2*B) / p*B)*(p*p*p')=(B+(2*B) / p*B)*p*(p*p'):=by simp only [Nat.mul_assoc]
     _<=3*(B*B)*(p*p'):=Nat.mul_le_mul_right _ zV
     _<=3*(B*B)*(B*B):=Nat.mul_le_mul_left _ (Nat.mul_le_mul Ay (by omega))
     _=3*(B*B*(B*B)):=Nat.mul_assoc _ _ _
   obtain ⟨m',e',s'⟩:=A7_ hK h1 zF rP (decide (0<aD m a c)) f m2 (B+(2*B) / p*B) p a' (by omega) w2 vM vL qR s7 wD zG (by omega);exact ⟨m',(A8_ og ha e1).trans e',⟨s'.len.trans l2,s'.wid,s'.low,s'.upp,s'.pos,by rw [<- l2];exact s'.zero,s'.red⟩⟩
def gN:Nat->Nat->Nat->Nat×Nat
 | 0,b,u=>(b,u)
 | r+1,b,u=>gN r (4*b+1) (u+4*b+2)
theorem lg:∀ r b u,b<=(gN r b u).1/\u<=(gN r b u).2
 | 0,b,u=>⟨n9 _,n9 _⟩
 | r+1,b,u=>by
  have:=lg r (4*b+1) (u+4*b+2);unfold gN;omega
theorem Z6j (b:Nat):10^b*10^b*(10^b*10^b)=10^(4*b):=by
 rw [<- Nat.pow_add,<- Nat.pow_add];congr 1;omega
theorem ij {a b:Nat} (h:a<=b):10^a<=10^b:=Nat.pow_le_pow_right (by decide) h
theorem j3 (b:Nat):10^(b+1)=10*10^b:=by rw [Nat.pow_succ,Nat.mul_comm]
theorem nU (b:Nat):1<=10^b:=Nat.pos_of_ne_zero (by simp)
theorem j9_ {d:Nat} {A B C:Nat} {m:oP} (hl:ea d A m) (hu:eK d B m) (hA:A<=C) (hB:B<=C) (e:Nat):eK e C m:=by
 intro i h1 h2;by_cases h:i<d;·exact (hu i h h2).mono hB
 ·exact (hl i (by omega) h2).mono hA
inductive Sp (n:Nat) (S:oQ->Prop):oQ->Prop
 | zero:Sp n S (List.replicate n 0)
 | mem {r} (h:S r):Sp n S r
 | less {r s} (k:Int) (h:Sp n S r) (h':Sp n S s):Sp n S (aM k r s)
def j_ (n:Nat) (S:oQ->Prop):Prop:=∀ r,S r->r.length=n
theorem Sp.len {n:Nat} {S:oQ->Prop} (hS:j_ n S) {r:oQ} (h:Sp n S r):r.length=n:=by
 induction h with
 | zero=>simp
 | mem h=>exact hS _ h
 | less k h h' ih ih'=>rw [dW];exact ih
theorem Sp.mono {n:Nat} {S T:oQ->Prop} (hS:∀ r,S r->Sp n T r) {r:oQ} (h:Sp n S r):Sp n T r:=by
 induction h with
 | zero=>exact .zero
 | mem h=>exact hS _ h
 | less k h h' ih ih'=>exact .less k ih ih'
theorem Sp.zeroCol {n c:Nat} {S:oQ->Prop} (hS:j_ n S) (hz:∀ r,S r->r.getD c 0=0) {r:oQ} (h:Sp n S r):r.getD c 0=0:=by
 induction h with
 | zero =>
  rw [nu];by_cases hc:c<n;·rw [ns (by simpa using hc)];simp
  ·rw [n_ (by simp;omega)];rfl
 | mem h=>exact hz _ h
 | less k h h' ih ih' =>
  rw [du k (by rw [h.len hS,h'.len hS]),ih,ih'];simp
theorem Q5_ (k:Int):∀ (r s:oQ),aM (-k) (aM k r s) s=r
 | r,[]=>by
  have h1:aM k r []=r:=by cases r <;> rfl
  rw [h1];cases r <;> rfl
 | [],_::_=>rfl
 | a::r,b::s=>by
  have e:aM (-k) (aM k (a::r) (b::s)) (b::s)=(a-k*b - -k*b)::aM (-k) (aM k r s) s:=rfl;rw [e,Q5_ k r s,Int.neg_mul];congr 1;omega
theorem q1_:∀ (r:oQ),aM 1 (List.replicate r.length 0) r=r.map (- ·)
 | []=>rfl
 | a::r=>by
  have e:aM 1 (List.replicate (a::r).length 0) (a::r)=(0-1*a)::aM 1 (List.replicate r.length 0) r:=rfl;rw [e,q1_ r,List.map_cons];congr 1;omega
theorem Sp.neg {n:Nat} {S:oQ->Prop} {r:oQ} (h:Sp n S r) (hl:r.length=n):Sp n S (r.map (- ·)):=by
 rw [<- q1_,hl];exact .less 1 .zero h
theorem C2_ {k:Int} {r s r':oQ} (h:eX k r s=some r'):r'=aM k r s:=by
 unfold eX at h
 split at h
 ·rename_i h0;rw [h0,iE];exact (oA h).symm
 ·split at h
  ·exact (oA h).symm
  ·cases h
def aG (d:Nat) (m:oP):oQ->Prop:=fun r=>∃ i,d<=i/\i<m.length/\aC m i=r
def bP (n:Nat) (S T:oQ->Prop):Prop:=(∀ r,S r->Sp n T r)/\(∀ r,T r->Sp n S r)
theorem bP.refl (n:Nat) (S:oQ->Prop):bP n S S:=⟨fun _ h=>.mem h,fun _ h=>.mem h⟩
theorem bP.trans {n:Nat} {S T V:oQ->Prop} (h:bP n S T) (k:bP n T V):bP n S V:=⟨fun r hr=>(h.1 r hr).mono k.1,fun r hr=>(k.2 r hr).mono h.2⟩
theorem bP.iff {n:Nat} {S T:oQ->Prop} (h:bP n S T) (r:oQ):Sp n S r↔Sp n T r:=⟨fun hr=>hr.mono h.1,fun hr=>hr.mono h.2⟩
theorem cR {n d:Nat} {m:oP} (hw:ae n m):j_ n (aG d m):=by rintro r ⟨i,-,hi,rfl⟩;exact hw i hi
theorem ak {d i:Nat} {m:oP} (h1:d<=i) (h2:i<m.length):aG d m (aC m i):=⟨i,h1,h2,rfl⟩
theorem Z2y {n d a:Nat} {m:oP} (hd:d<m.length) (ha:a<m.length) (xB:d<=a):bP n (aG d m) (aG d (bF m d a)):=by
 have hr:=l_ hd ha;have hl:=nj m d a;constructor
 ·rintro r ⟨i,h1,h2,rfl⟩;refine .mem ?_;by_cases e1:i=a
  ·refine ⟨d,n9 _,by omega,?_⟩;rw [hr,e1];by_cases e2:d=a;·rw [if_pos e2,e2]
   ·rw [if_neg e2,if_pos rfl]
  ·by_cases e2:i=d;·exact ⟨a,xB,by omega,by rw [hr,if_pos rfl,e2]⟩
   ·exact ⟨i,h1,by omega,by rw [hr,if_neg e1,if_neg e2]⟩
 ·rintro r ⟨i,h1,h2,rfl⟩;refine .mem ?_;rw [hr];by_cases e1:i=a;·rw [if_pos e1];exact ak (n9 _) hd
  ·rw [if_neg e1];by_cases e2:i=d;·rw [if_pos e2];exact ak xB ha
   ·rw [if_neg e2];exact ak h1 (by omega)
theorem y9_ {c d:Nat} {m:oP}:∀ {k m' rest},dL c d m k=some (m',rest)->d+1+k<=m.length->∀ i,d<i->i<d+1+k->∃ q,aC m' i=aM q (aC m i) (aC m d)
 | 0,m',rest,h,hk,i,h1,h2=>by omega
 | k+1,m',rest,h,hk,i,h1,h2=>by
  obtain ⟨m1,r1,r,e1,e2,e3,e4⟩:=V6_ h;obtain ⟨l1,l2,l3⟩:=mw e1 (by omega);simp only [Prod.mk.injEq] at e4;obtain ⟨rfl,-⟩:=e4;rw [fR (by omega)];by_cases he:i=d+1+k;·rw [if_pos he,C2_ e3,l2 d (.inl (n9 _)),l2 (d+1+k) (.inr (n9 _)),he];exact ⟨_,rfl⟩
  ·rw [if_neg he];exact y9_ e1 (by omega) i h1 (by omega)
theorem Z4u {c d:Nat} {m:oP}:∀ {k m'},dY c d m k=some m'->k<=d->d<m.length->∀ i,i<k->∃ q,aC m' i=aM q (aC m i) (aC m d)
 | 0,m',h,hk,hd,i,h1=>by omega
 | k+1,m',h,hk,hd,i,h1=>by
  obtain ⟨m1,r,e1,e2,e3,rfl⟩:=nk h;obtain ⟨l1,l2,l3⟩:=K1_ e1 (by omega) hd;rw [fR (by omega)];by_cases he:i=k;·rw [if_pos he,C2_ e3,l2 d (by omega),l2 k (n9 _),he];exact ⟨_,rfl⟩
  ·rw [if_neg he];exact Z4u e1 (by omega) hd i (by omega)
theorem Z10 {n c d k:Nat} {m m':oP} {rest:Bool} (h:dL c d m k=some (m',rest)) (hk:d+1+k<=m.length):bP n (aG d m) (aG d m'):=by
 obtain ⟨l1,l2,l3⟩:=mw h hk;have hd:aC m' d=aC m d:=l2 d (.inl (n9 _));constructor
 ·rintro r ⟨i,h1,h2,rfl⟩;by_cases he:d<i/\i<d+1+k
  ·obtain ⟨q,hq⟩:=y9_ h hk i he.1 he.2;rw [<- Q5_ q (aC m i) (aC m d),<- hq,<- hd];exact .less _ (.mem (ak h1 (by omega))) (.mem (ak (n9 _) (by omega)))
  ·rw [<- l2 i (by omega)];exact .mem (ak h1 (by omega))
 ·rintro r ⟨i,h1,h2,rfl⟩;by_cases he:d<i/\i<d+1+k
  ·obtain ⟨q,hq⟩:=y9_ h hk i he.1 he.2;rw [hq];exact .less _ (.mem (ak h1 (by omega))) (.mem (ak (n9 _) (by omega)))
  ·rw [l2 i (by omega)];exact .mem (ak h1 (by omega))
structure SwK (n d:Nat) (m m':oP):Prop where
 len:m'.length=m.length
 wid:ae n m'
 sp:bP n (aG d m) (aG d m')
 ahead:∀ i,i<d->∃ q,aC m' i=aM q (aC m i) (aC m' d)
theorem n6_ {n c d:Nat}:∀ {F:Nat} {m m':oP} {b:Bool},eI n c d F m=some (m',b)->d<m.length->ae n m->SwK n d m m'
 | 0,m,m',b,h,hd,hw=>by cases h
 | f+1,m,m',b,h,hd,hw=>by
  rw [eI] at h;by_cases og:bV n m=true
  ·rw [if_pos og] at h;cases ha:bQ c d m (m.length-d) with
   | none =>
    rw [ha] at h;simp only [Option.some.injEq,Prod.mk.injEq] at h;obtain ⟨rfl,-⟩:=h;exact ⟨rfl,hw,bP.refl _ _,fun i _=>⟨0,(iE _ _).symm⟩⟩
   | some a =>
    rw [ha] at h;simp only at h;obtain ⟨b1,b2,b3,b4⟩:=gY ha;have pT:a<m.length:=(by omega);have hsl:=nj m d a;have xJ:ae n (bF m d a):=by
     intro i hi;rw [l_ hd pT]
     split
     ·exact hw d hd
     ·split
      ·exact hw a pT
      ·exact hw i (by omega)
    cases qC:dL c d (bF m d a) (m.length-(d+1)) with
    | none=>rw [qC] at h;cases h
    | some y =>
     obtain ⟨m2,rest⟩:=y;rw [qC] at h;obtain ⟨l1,l2,l3⟩:=mw qC (by omega);have qw:ae n m2:=fun i hi=>by rw [l3 i];exact xJ i (by omega)
     have hsp:bP n (aG d m) (aG d m2):=(Z2y hd pT b1).trans (Z10 qC (by omega));have Bb:∀ i,i<d->aC m2 i=aC m i:=fun i hi=>by
      rw [l2 i (.inl (by omega)),l_ hd pT,if_neg (by omega),if_neg (by omega)]
     cases rest with
     | true =>
      simp only at h;have s:=n6_ h (by omega) qw;refine ⟨by rw [s.len,l1,hsl],s.wid,hsp.trans s.sp,fun i hi=>?_⟩;obtain ⟨q,hq⟩:=s.ahead i hi;rw [Bb i hi] at hq;exact ⟨q,hq⟩
     | false =>
      simp only at h;by_cases ql:bV n m2=true
      ·rw [if_pos ql] at h;obtain ⟨m3,tI⟩:=oO ((if aD m2 d c<0 then m2.set d ((aC m2 d).map (- ·)) else m2));rw [<- tI] at h;have pW:d<m2.length:=(by omega);have Lp:m3.length=m2.length:=by rw [tI];split <;> simp
       have r3:∀ i,i≠d->aC m3 i=aC m2 i:=by
        intro i hi;rw [tI];split;·rw [fR pW,if_neg hi]
        ·rfl
       have d3:aC m3 d=aC m2 d\/aC m3 d=(aC m2 d).map (- ·):=by
        rw [tI];split;·rw [fR pW,if_pos rfl];exact .inr rfl
        ·exact .inl rfl
       have xP:∀ r:oQ,(r.map (- ·)).map (- ·)=r:=fun r=>by
        rw [List.map_map];have:((fun x:Int=>-x) ∘ fun x:Int=>-x)=id:=(by funext x;simp);rw [this,List.map_id]
       have JX:bP n (aG d m2) (aG d m3):=by
        constructor
        ·rintro r ⟨i,h1,h2,rfl⟩;by_cases he:i=d
         ·rw [he];rcases d3 with e | e;·rw [<- e];exact .mem (ak (n9 _) (by omega))
          ·rw [<- xP (aC m2 d),<- e];refine (Sp.mem (ak (n9 _) (by omega))).neg ?_;rw [e,List.length_map];exact qw d pW
         ·rw [<- r3 i he];exact .mem (ak h1 (by omega))
        ·rintro r ⟨i,h1,h2,rfl⟩;by_cases he:i=d
         ·rw [he];rcases d3 with e | e;·rw [e];exact .mem (ak (n9 _) pW)
          ·rw [e];exact (Sp.mem (ak (n9 _) pW)).neg (qw d pW)
         ·rw [r3 i he];exact .mem (ak h1 (by omega))
       have hw3:ae n m3:=by
        intro i hi;by_cases he:i=d
        ·rw [he];rcases d3 with e | e
         ·rw [e];exact qw d pW
         ·rw [e,List.length_map];exact qw d pW
        ·rw [r3 i he];exact qw i (by omega)
       cases hu:dY c d m3 d with
       | none=>rw [hu] at h;cases h
       | some m4 =>
        rw [hu] at h;simp only [Option.some.injEq,Prod.mk.injEq] at h;obtain ⟨rfl,-⟩:=h;obtain ⟨u1,u2,u3⟩:=K1_ hu (n9 _) (by omega);refine ⟨by omega,fun i hi=>by rw [u3 i];exact hw3 i (by omega),(hsp.trans JX).trans ?_,fun i hi=>?_⟩
        ·constructor
         ·rintro r ⟨i,h1,h2,rfl⟩;rw [<- u2 i h1];exact .mem (ak h1 (by omega))
         ·rintro r ⟨i,h1,h2,rfl⟩;rw [u2 i h1];exact .mem (ak h1 (by omega))
        ·obtain ⟨q,hq⟩:=Z4u hu (n9 _) (by omega) i hi;refine ⟨q,?_⟩;rw [hq,u2 d (n9 _),r3 i (by omega),Bb i hi]
      ·rw [if_neg ql] at h;cases h
  ·rw [if_neg og] at h;cases h
structure HP (m:oP) (d c:Nat) (ps:Nat->Nat):Prop where
 lt:∀ i,i<d->ps i<c
 mono:∀ i j,i<j->j<d->ps i<ps j
 zero:∀ i,i<d->∀ c',c'<ps i->aD m i c'=0
 pos:∀ i,i<d->0<aD m i (ps i)
 red:∀ i j,i<j->j<d->0<=aD m i (ps j)/\aD m i (ps j)<aD m j (ps j)
 rest:∀ i,d<=i->i<m.length->∀ c',c'<c->aD m i c'=0
theorem HP.step {n c d C U:Nat} {m m':oP} {ps:Nat->Nat} (h:HP m d c ps) (hd:d<m.length) (hw:ae n m) (s:mT n d c C U m m') (k:SwK n d m m'):HP m' (d+1) (c+1) (fun i=>if i<d then ps i else c):=by
 have hz:∀ i,d<=i->i<m'.length->∀ c',c'<c->aD m' i c'=0:=by
  intro i h1 h2 c' hc;have hi:Sp n (aG d m) (aC m' i):=k.sp.2 _ (ak h1 h2);exact hi.zeroCol (cR hw) (by rintro r ⟨j,j1,j2,rfl⟩;exact h.rest j j1 j2 c' hc)
 have pG:∀ i,i<d->∀ c',c'<c->aD m' i c'=aD m i c':=by
  intro i hi c' hc;obtain ⟨q,hq⟩:=k.ahead i hi;have h0:=hz d (n9 _) (by rw [s.len];exact hd) c' hc;show (aC m' i).getD c' 0=_;rw [hq,du q (by rw [s.wid d (by rw [s.len];exact hd),hw i (by omega)])];have h1:(aC m' d).getD c' 0=0:=h0;rw [h1];simp;rfl
 refine ⟨fun i hi=>?_,fun i j pO hj=>?_,fun i hi c' hc=>?_,fun i hi=>?_,fun i j pO hj=>?_,fun i h1 h2 c' hc=>?_⟩
 ·split
  ·rename_i pw;have:=h.lt i pw;omega
  ·omega
 ·rw [if_pos (show i<d by omega)]
  split
  ·rename_i pw;exact h.mono i j pO pw
  ·exact h.lt i (by omega)
 ·split at hc
  ·rename_i pw;rw [pG i pw c' (by have:=h.lt i pw;omega)];exact h.zero i pw c' hc
  ·obtain rfl:i=d:=(by omega);exact hz i (n9 _) (by rw [s.len];exact hd) c' hc
 ·split
  ·rename_i pw;rw [pG i pw _ (h.lt i pw)];exact h.pos i pw
  ·obtain rfl:i=d:=(by omega);exact s.pos
 ·split
  ·rename_i pw;rw [pG i (by omega) _ (h.lt j pw),pG j pw _ (h.lt j pw)];exact h.red i j pO pw
  ·obtain rfl:j=d:=(by omega);exact s.red i pO
 ·by_cases qO:c'=c;·rw [qO];exact s.zero i (by omega) (by rw [<- s.len];exact h2)
  ·exact hz i (by omega) h2 c' (by omega)
theorem Z5O {n d:Nat} {m m':oP} (k:SwK n d m m') (hd:d<m.length):bP n (aG 0 m) (aG 0 m'):=by
 have yE:∀ {x:oP} {r},aG d x r->aG 0 x r:=fun ⟨i,h1,h2,h3⟩=>⟨i,by omega,h2,h3⟩
 constructor
 ·rintro r ⟨i,-,h2,rfl⟩;by_cases hi:i<d
  ·obtain ⟨q,hq⟩:=k.ahead i hi;rw [<- Q5_ q (aC m i) (aC m' d),<- hq];exact .less _ (.mem (ak (by omega) (by rw [k.len];exact h2))) (.mem (ak (by omega) (by rw [k.len];exact hd)))
  ·exact (k.sp.1 _ (ak (by omega) h2)).mono fun r hr=>.mem (yE hr)
 ·rintro r ⟨i,-,h2,rfl⟩;by_cases hi:i<d
  ·obtain ⟨q,hq⟩:=k.ahead i hi;rw [hq];refine .less _ (.mem (ak (by omega) (by omega))) ?_;exact (k.sp.2 _ (ak (n9 _) (by rw [k.len];exact hd))).mono fun r hr=>.mem (yE hr)
  ·exact (k.sp.2 _ (ak (by omega) h2)).mono fun r hr=>.mem (yE hr)
theorem M3_ {n K F:Nat} (hK:K<=400000000) :
  ∀ (k c d r b u:Nat) (m:oP) (ps:Nat->Nat),d<=m.length->ae n m->ea d (10^b) m->eK d (10^u) m->HP m d c ps->(m.length-d<=r\/k<=r)->(gN r b u).1+1<=K->(gN r b u).2+1<=K->10^(gN r b u).1<F ->
   ∃ m' d' ps',dG n F k c d m=some (m',d')/\m'.length=m.length/\d'<=m'.length/\ae n m'/\eK d' (10^(gN r b u).2) m'/\HP m' d' (c+k) ps'/\bP n (aG 0 m) (aG 0 m')
 | 0,c,d,r,b,u,m,ps,hd,hw,hl,hu,hp,hr,h1,h2,hF=>⟨m,d,ps,rfl,rfl,hd,hw,fun i a1 a2=>(hu i a1 a2).mono (ij (lg r b u).2),hp,bP.refl _ _⟩
 | k+1,c,d,r,b,u,m,ps,hd,hw,hl,hu,hp,hr,h1,h2,hF=>by
  have hg:=lg r b u;by_cases hlt:d<m.length
  ·obtain ⟨r,rfl⟩:∃ r',r=r'+1:=⟨r-1,by omega⟩;have hg1:=lg r (4*b+1) (u+4*b+2);have e1:gN (r+1) b u=gN r (4*b+1) (u+4*b+2):=rfl;rw [e1] at hg h1 h2 hF;have p4:=nU (4*b);have pb:=nU b;have pu:=nU u;have hY:2*(3*(10^b*10^b*(10^b*10^b)))+2<10^K:=by
    rw [Z6j];have e2:=j3 (4*b);have e3:10^(4*b+1)<=10^K:=ij (by omega);omega
   have xj:10^b+2<10^K:=by
    have e2:=j3 b;have e3:10^(b+1)<=10^K:=ij (by omega);omega
   have rP:10^u+2<10^K:=by
    have e2:=j3 u;have e3:10^(u+1)<=10^K:=ij (by omega);omega
   have K2:10^b<F:=Nat.lt_of_le_of_lt (ij hg.1) hF;have hC:2*(3*(10^b*10^b*(10^b*10^b)))<=10^(4*b+1):=by
    rw [Z6j,j3];omega
   have DF:10^(4*b+1)<=10^(u+4*b+2):=ij (by omega);have tP:10^u+(10^u+1)*(2*(3*(10^b*10^b*(10^b*10^b))))<=10^(u+4*b+2):=by
    rw [Z6j];have e2:10^(u+4*b+2)=100*(10^u*10^(4*b)):=(by rw [Nat.pow_succ,Nat.pow_succ,Nat.pow_add];omega);have e3:10^u<=10^u*10^(4*b):=Nat.le_mul_of_pos_right _ (by omega);have e4:10^(4*b)<=10^u*10^(4*b):=Nat.le_mul_of_pos_left _ (by omega);have e5:(10^u+1)*(2*(3*10^(4*b)))=6*(10^u*10^(4*b))+6*10^(4*b):=by
     rw [Nat.add_mul,Nat.one_mul,Nat.mul_left_comm,Nat.mul_left_comm _ 3];omega
    rw [e2,e5];omega
   rcases Z43 (n:=n) (c:=c) (F:=F) hK (by omega) hY xj rP K2 hlt hw hl hu with ⟨hs,hz⟩ | ⟨m',hs,s⟩
   ·have vW:m.length-d<=r+1\/k<=r+1:=by omega
    have qj:HP m d (c+1) ps:=⟨fun i hi=>by have:=hp.lt i hi;omega,hp.mono,hp.zero,hp.pos,hp.red,fun i a1 a2 c' hc=>by
     by_cases qO:c'=c;·rw [qO];exact hz i a1 a2
     ·exact hp.rest i a1 a2 c' (by omega)⟩
    obtain ⟨m',d',ps',q1,q2,q3,q4,q5,q6,q7⟩:=M3_ hK k (c+1) d (r+1) b u m ps hd hw hl hu qj vW (by rw [e1];exact h1) (by rw [e1];exact h2) (by rw [e1];exact hF);refine ⟨m',d',ps',?_,q2,q3,q4,q5,by rw [Nat.add_right_comm] at q6;exact q6,q7⟩;rw [dG,if_pos hlt,hs];exact q1
   ·have hk:=n6_ hs hlt hw;have hlow:ea (d+1) (10^(4*b+1)) m':=fun i a1 a2=>(s.low i (by omega) a2).mono hC;have yf:eK (d+1) (10^(u+4*b+2)) m':=j9_ s.low s.upp (n8 hC DF) tP (d+1);have vW:m'.length-(d+1)<=r\/k<=r:=by have:=s.len;omega
    obtain ⟨m2,d',ps',q1,q2,q3,q4,q5,q6,q7⟩:=M3_ hK k (c+1) (d+1) r (4*b+1) (u+4*b+2) m' _ (by rw [s.len];omega) s.wid hlow yf (hp.step hlt hw s hk) vW h1 h2 hF;refine ⟨m2,d',ps',?_,q2.trans s.len,q3,q4,q5,by rw [Nat.add_right_comm] at q6;exact q6,(Z5O hk hlt).trans q7⟩;rw [dG,if_pos hlt,hs];exact q1
  ·refine ⟨m,d,ps,?_,rfl,hd,hw,fun i a1 a2=>(hu i a1 a2).mono (ij hg.2),⟨fun i hi=>by have:=hp.lt i hi;omega,hp.mono,hp.zero,hp.pos,hp.red,fun i a1 a2=>by omega⟩,bP.refl _ _⟩;rw [dG,if_neg hlt]
def aW (n:Nat) (R:oP) (ps:Nat->Nat):Prop:=ae n R/\HP R R.length n ps
theorem jW {m:oP} {d i:Nat} (h:i<d):aC (m.take d) i=aC m i:=by
 unfold aC;rw [nu,nu,List.getElem?_take,if_pos h]
theorem S2_ {m:oP} {d i c:Nat} (h:i<d):aD (m.take d) i c=aD m i c:=by unfold aD;rw [jW h]
theorem v5_ {n:Nat} {r:oQ} (hl:r.length=n) (hz:∀ c,c<n->r.getD c 0=0):r=List.replicate n 0:=by
 apply List.ext_getElem (by simpa using hl);intro i h1 h2;have:=hz i (by omega);rw [nu,ns h1] at this;simpa using this
theorem nB (n r b:Nat) (m:oP) (hw:∀ x∈m,x.length=n) (hb:∀ x∈m,aN (10^b) x) (hr:m.length<=r\/n<=r) (h1:(gN r b 0).1+1<=400000000) (h2:(gN r b 0).2+1<=400000000) :
  ∃ F R ps,dU n F n m=some R/\R.length<=m.length/\aW n R ps/\(∀ x∈R,aN (10^(gN r b 0).2) x)/\bP n (aG 0 m) (aG 0 R):=by
 have hmem:∀ (m':oP) i,i<m'.length->aC m' i∈m':=fun m' i hi=>nw (en hi);have Dn:ae n m:=fun i hi=>hw _ (hmem m i hi);obtain ⟨m',d',ps,q1,q2,q3,q4,q5,q6,q7⟩:=M3_ (n:=n) (F:=10^(gN r b 0).1+1) (n9 400000000) n 0 0 r b 0 m (fun _=>0) (by omega) Dn (fun i _ hi=>hb _ (hmem m i hi)) (fun i hi _=>by omega)
  ⟨fun i hi=>by omega,fun i j _ hj=>by omega,fun i hi=>by omega,fun i hi=>by omega,fun i j _ hj=>by omega,fun i _ _ c' hc=>by omega⟩ (by omega) h1 h2 (Nat.lt_succ_self _)
 rw [Nat.zero_add] at q6;have hlen:(m'.take d').length=d':=by rw [ny];omega
 have hW:ae n (m'.take d'):=fun i hi=>by rw [hlen] at hi;rw [jW hi];exact q4 i (by omega)
 refine ⟨10^(gN r b 0).1+1,m'.take d',ps,by unfold dU;rw [q1],by rw [hlen,<- q2];exact q3,⟨hW,?_⟩,fun x hx=>?_,q7.trans ?_⟩
 ·rw [hlen]
  exact ⟨q6.lt,q6.mono,fun i hi c' hc=>by rw [S2_ hi];exact q6.zero i hi c' hc,fun i hi=>by rw [S2_ hi];exact q6.pos i hi,fun i j pO hj=>by
   rw [S2_ (show i<d' by omega),S2_ hj];exact q6.red i j pO hj,fun i a1 a2=>by rw [hlen] at a2;omega⟩
 ·obtain ⟨i,hi⟩:=List.getElem?_of_mem hx;have hil:=(nt.1 hi).1;rw [hlen] at hil;rw [<- eP hi,jW hil];exact q5 i hil (by omega)
 ·constructor
  ·rintro x ⟨i,-,h2,rfl⟩;by_cases hi:i<d';·rw [<- jW (m:=m') hi];exact .mem (ak (by omega) (by omega))
   ·rw [v5_ (q4 i h2) (fun c hc=>q6.rest i (by omega) h2 c hc)];exact .zero
  ·rintro x ⟨i,-,h2,rfl⟩;rw [hlen] at h2;rw [jW h2];exact .mem (ak (by omega) (by omega))
theorem Q6_:∀ (r:oQ),aM 1 r r=List.replicate r.length 0
 | []=>rfl
 | a::r=>by
  have e:aM 1 (a::r) (a::r)=(a-1*a)::aM 1 r r:=rfl;rw [e,Q6_ r,List.length_cons,List.replicate_succ];congr 1;omega
theorem Q7_ (k t u:Int):∀ (r s x:oQ),r.length=x.length->s.length=x.length->aM (t-k*u) (aM k r s) x=aM k (aM t r x) (aM u s x)
 | [],[],[],_,_=>rfl
 | [],_::_,[],_,h2=>by simp at h2
 | _::_,_,[],h1,_=>by simp at h1
 | [],_,_::_,h1,_=>by simp at h1
 | _::_,[],_::_,_,h2=>by simp at h2
 | a::r,b::s,c::x,h1,h2=>by
  have e:aM (t-k*u) (aM k (a::r) (b::s)) (c::x)=(a-k*b-(t-k*u)*c)::aM (t-k*u) (aM k r s) x:=rfl;have e2:aM k (aM t (a::r) (c::x)) (aM u (b::s) (c::x))=(a-t*c-k*(b-u*c))::aM k (aM t r x) (aM u s x):=rfl;rw [e,e2,Q7_ k t u r s x (by simpa using h1) (by simpa using h2),Int.sub_mul,Int.mul_sub,Int.mul_assoc];congr 1;omega
theorem Sp.peel {n d:Nat} {R:oP} (hW:ae n R) (hd:d<R.length) {v:oQ} (h:Sp n (aG d R) v):∃ t,Sp n (aG (d+1) R) (aM t v (aC R d)):=by
 induction h with
 | zero=>exact ⟨0,by rw [iE];exact .zero⟩
 | mem h =>
  obtain ⟨i,h1,h2,rfl⟩:=h;by_cases hi:i=d;·exact ⟨1,by rw [hi,Q6_,hW d hd];exact .zero⟩
  ·exact ⟨0,by rw [iE];exact .mem (ak (by omega) h2)⟩
 | less k h h' ih ih' =>
  obtain ⟨t,ht⟩:=ih;obtain ⟨u,hu⟩:=ih';refine ⟨t-k*u,?_⟩;rw [Q7_ k t u _ _ _ (by rw [h.len (cR hW),hW d hd]) (by rw [h'.len (cR hW),hW d hd])];exact .less k ht hu
theorem Sp.first {n d:Nat} {R:oP} {ps:Nat->Nat} (hR:aW n R ps) (hd:d<R.length) {v:oQ} (h:Sp n (aG d R) v):∃ t,v.getD (ps d) 0=t*aD R d (ps d)/\Sp n (aG (d+1) R) (aM t v (aC R d)):=by
 obtain ⟨t,ht⟩:=h.peel hR.1 hd;refine ⟨t,?_,ht⟩
 have h0:(aM t v (aC R d)).getD (ps d) 0=0:=ht.zeroCol (cR hR.1) (by
  rintro r ⟨i,h1,h2,rfl⟩
  exact hR.2.zero i h2 (ps d) (hR.2.mono d i (by omega) h2))
 rw [du t (by rw [h.len (cR hR.1),hR.1 d hd])] at h0;unfold aD;omega
theorem Sp.none {n d:Nat} {R:oP} (hW:ae n R) (hd:R.length<=d) {v:oQ} (h:Sp n (aG d R) v):v=List.replicate n 0 :=
 v5_ (h.len (cR hW)) fun c _=>h.zeroCol (cR hW) (by rintro r ⟨i,h1,h2,rfl⟩;omega)
theorem H8_ {t p:Int} (hp:0<p) (h1:-p<t*p) (h2:t*p<p):t=0:=by
 rcases Int.lt_trichotomy t 0 with h | h | h
 ·have:t*p<=(-1)*p:=Int.mul_le_mul_of_nonneg_right (by omega) (by omega);omega
 ·exact h
 ·have:1*p<=t*p:=Int.mul_le_mul_of_nonneg_right (by omega) (by omega);omega
theorem Sp.small {n:Nat} {R:oP} {ps:Nat->Nat} (hR:aW n R ps) {v:oQ}:∀ (k d:Nat),R.length-d=k->Sp n (aG d R) v->(∀ i,d<=i->i<R.length->-aD R i (ps i)<v.getD (ps i) 0/\v.getD (ps i) 0<aD R i (ps i))->v=List.replicate n 0
 | 0,d,hk,h,hs=>h.none hR.1 (by omega)
 | k+1,d,hk,h,hs=>by
  obtain ⟨t,e,ht⟩:=h.first hR (by omega)
  have hsd:=hs d (n9 _) (by omega);rw [e] at hsd;have h0:t=0:=H8_ (hR.2.pos d (by omega)) hsd.1 hsd.2;rw [h0,iE] at ht;exact Sp.small hR k (d+1) (by omega) ht fun i h1 h2=>hs i (by omega) h2
theorem Sp.lead {n c:Nat} {R:oP} {ps:Nat->Nat} (hR:aW n R ps) {v:oQ} (hc:v.getD c 0≠0) (hz:∀ c',c'<c->v.getD c' 0=0):∀ (k d:Nat),R.length-d=k->Sp n (aG d R) v->∃ i t,d<=i/\i<R.length/\ps i=c/\v.getD c 0=t*aD R i c
 | 0,d,hk,h=>absurd (h.zeroCol (cR hR.1) (by rintro r ⟨i,h1,h2,rfl⟩;omega)) hc
 | k+1,d,hk,h=>by
  obtain ⟨t,e,ht⟩:=h.first hR (by omega)
  rcases Nat.lt_trichotomy (ps d) c with hl | hl | hl
  ·rw [hz _ hl] at e;have hp:=hR.2.pos d (by omega);have h0:t=0:=H8_ hp (by omega) (by omega);rw [h0,iE] at ht;obtain ⟨i,t',h1,h2,h3⟩:=Sp.lead hR hc hz k (d+1) (by omega) ht;exact ⟨i,t',by omega,h2,h3⟩
  ·exact ⟨d,t,n9 _,by omega,hl,by rw [<- hl];exact e⟩
  ·refine absurd (h.zeroCol (cR hR.1) ?_) hc;rintro r ⟨i,h1,h2,rfl⟩;refine hR.2.zero i h2 c ?_;by_cases hi:i=d;·rw [hi];exact hl
   ·have:=hR.2.mono d i (by omega) h2;omega
theorem lh {n:Nat} {R T:oP} {ps qs:Nat->Nat} (hR:aW n R ps) (hT:aW n T qs) (hs:bP n (aG 0 R) (aG 0 T)) (j:Nat) (hj:j<T.length):∃ i t,i<R.length/\ps i=qs j/\aD T j (qs j)=t*aD R i (qs j):=by
 have h:=hs.2 _ (ak (Nat.zero_le j) hj);have hp:=hT.2.pos j hj;obtain ⟨i,t,-,h2,h3,h4⟩:=Sp.lead (c:=qs j) hR (show aD T j (qs j)≠0 by omega) (fun c' hc=>hT.2.zero j hj c' hc) _ 0 rfl h;exact ⟨i,t,h2,h3,h4⟩
theorem bP.symm {n:Nat} {S T:oQ->Prop} (h:bP n S T):bP n T S:=⟨h.2,h.1⟩
theorem f2_ {n:Nat} {R T:oP} {ps qs:Nat->Nat} (hR:aW n R ps) (hT:aW n T qs) (hs:bP n (aG 0 R) (aG 0 T)):∀ (k i:Nat),i<=k->i<R.length->i<T.length/\ps i=qs i:=by
 intro k
 induction k with
 | zero =>
  intro i hi hl;obtain rfl:i=0:=by omega
  obtain ⟨j,t,h1,h2,-⟩:=lh hT hR hs.symm 0 hl;obtain ⟨j',t',zY,AL,-⟩:=lh hR hT hs 0 (by omega);refine ⟨by omega,?_⟩;by_cases hj:j=0;·rw [hj] at h2;exact h2.symm
  ·have a1:=hT.2.mono 0 j (by omega) h1;by_cases KO:j'=0;·rw [KO] at AL;exact AL
   ·have a2:=hR.2.mono 0 j' (by omega) zY;omega
 | succ k ih =>
  intro i hi hl;by_cases ru:i<=k;·exact ih i ru hl
  ·obtain ⟨j,t,h1,h2,-⟩:=lh hT hR hs.symm i hl;have sh:i<=j:=by
    rcases Nat.lt_or_ge j i with h | h
    ·have a1:=ih j (by omega) (by omega);have a2:=hR.2.mono j i h hl;omega
    ·exact h
   obtain ⟨j',t',zY,AL,-⟩:=lh hR hT hs i (by omega);have BO:i<=j':=by
    rcases Nat.lt_or_ge j' i with h | h
    ·have a1:=ih j' (by omega) zY;have a2:=hT.2.mono j' i h (by omega);omega
    ·exact h
   refine ⟨by omega,?_⟩;have a1:qs i<=qs j:=by
    by_cases he:i=j;·rw [he];exact n9 _
    ·exact Nat.le_of_lt (hT.2.mono i j (by omega) h1)
   have a2:ps i<=ps j':=by
    by_cases he:i=j';·rw [he];exact n9 _
    ·exact Nat.le_of_lt (hR.2.mono i j' (by omega) zY)
   omega
theorem Z4J {a b t u:Int} (ha:0<a) (hb:0<b) (h:a=t*b) (h':b=u*a):a=b:=by
 have ht:1<=t:=by
  rcases Int.lt_or_le t 1 with h1 | h1
  ·have:t*b<=0*b:=Int.mul_le_mul_of_nonneg_right (by omega) (by omega);omega
  ·exact h1
 have hu:1<=u:=by
  rcases Int.lt_or_le u 1 with h1 | h1
  ·have:u*a<=0*a:=Int.mul_le_mul_of_nonneg_right (by omega) (by omega);omega
  ·exact h1
 have h1:1*b<=t*b:=Int.mul_le_mul_of_nonneg_right ht (by omega);have h2:1*a<=u*a:=Int.mul_le_mul_of_nonneg_right hu (by omega);omega
theorem U4_ {r s:oQ} (hl:r.length=s.length) (h:aM 1 r s=List.replicate r.length 0):r=s:=by
 apply List.ext_getElem hl;intro i h1 h2;have e:=du 1 hl.symm i;rw [h] at e;simp only [nu,ns h1,ns h2] at e;rw [ns (by simpa using h1)] at e;simp at e;omega
theorem kO {n:Nat} {R T:oP} {ps qs:Nat->Nat} (hR:aW n R ps) (hT:aW n T qs) (hs:bP n (aG 0 R) (aG 0 T)):R=T:=by
 have hp:=fun i (hi:i<R.length)=>f2_ hR hT hs i i (n9 _) hi;have hq:=fun i (hi:i<T.length)=>f2_ hT hR hs.symm i i (n9 _) hi;have hl:R.length=T.length:=by
  rcases Nat.lt_trichotomy R.length T.length with h | h | h;·have:=(hq _ h).1;omega
  ·exact h
  ·have:=(hp _ h).1;omega
 have zs:∀ i,i<R.length->aD R i (ps i)=aD T i (ps i):=by
  intro i hi;obtain ⟨j,t,h1,h2,h3⟩:=lh hT hR hs.symm i hi;obtain ⟨j',t',zY,AL,h3'⟩:=lh hR hT hs i (by omega);have sh:j=i:=by
   rcases Nat.lt_trichotomy j i with h | h | h;·have:=hT.2.mono j i h (by omega);have:=(hp i hi).2;omega
   ·exact h
   ·have:=hT.2.mono i j h h1;have:=(hp i hi).2;omega
  have BO:j'=i:=by
   rcases Nat.lt_trichotomy j' i with h | h | h;·have:=hR.2.mono j' i h hi;have:=(hp i hi).2;omega
   ·exact h
   ·have:=hR.2.mono i j' h zY;have:=(hp i hi).2;omega
  rw [sh] at h3;rw [BO,<- (hp i hi).2] at h3';have hpos:=hT.2.pos i (by omega);rw [<- (hp i hi).2] at hpos;exact Z4J (hR.2.pos i hi) hpos h3 h3'
 apply List.ext_getElem hl;intro i h1 h2;have e1:aC R i=R[i]:=eP (ns h1);have e2:aC T i=T[i]:=eP (ns h2);rw [<- e1,<- e2];have hlen:(aC R i).length=(aC T i).length:=by rw [hR.1 i h1,hT.1 i h2]
 refine U4_ hlen ?_;rw [hR.1 i h1];refine Sp.small hR _ 0 rfl (.less 1 (.mem (ak (Nat.zero_le _) h1)) (hs.2 _ (ak (Nat.zero_le _) h2))) fun j _ hj=>?_;rw [du 1 hlen.symm];show -aD R j (ps j)<aD R i (ps j)-1*aD T i (ps j)/\aD R i (ps j)-1*aD T i (ps j)<aD R j (ps j);have hpj:=hR.2.pos j hj;rcases Nat.lt_trichotomy i j with h | h | h
 ·have a1:=hR.2.red i j h hj;have a2:=hT.2.red i j h (by omega);rw [<- (hp j hj).2,<- zs j hj] at a2;omega
 ·subst h;rw [zs i h1] at hpj |-;omega
 ·rw [hR.2.zero i h1 (ps j) (hR.2.mono j i h h1)];have hx:=hT.2.zero i h2 (qs j) (hT.2.mono j i h h2);rw [<- (hp j hj).2] at hx;rw [hx];omega
theorem J2_ {α:Type} {xs:List α} {j:Nat} {x:α} (h:xs[j]?=some x):xs.drop j=x::xs.drop (j+1):=by
 obtain ⟨hj,rfl⟩:=nt.1 h;exact List.drop_eq_getElem_cons hj
def de (n:Int):Bool:=decide (-1000000000<=n) && decide (n<=1000000000)
theorem nA (n:Int):de n=true↔-1000000000<=n/\n<=1000000000:=by simp [de]
def f_ (p:Int->Bool) (xs:oQ):Int:=match xs.findIdx? p with | some i=>(i:Int) | none=>-1
def Z0D (g:Nat) (lb:Array Value) (p:Int->Bool) (w:World) (xs:oQ):Prop :=
 ∀ W x,x∈xs->aA w W->Calls prog g (#[.int .i64 x]++lb) W fun e W'=>e=.returned (.bool (p x))/\aA W W'
theorem X7_ (xs:oQ) (v:Value) (g:Nat) (lb:Array Value) (p:Int->Bool) (w:World) (h:aK w v xs) (eg:∀ args w,(callFunc g args).run prog w=.ok (.enter g args) w) (hp:Z0D g lb p w xs) :
  oL 214 #[v,.func (.func g) #[] lb] w (.int .i64 (f_ p xs)):=by
 obtain ⟨a,c,rfl,h1,h2,-,hxb,hc⟩:=h.open;have HC:=np hc;have HPR:=np hp;clear hc h hxb hp;unfold maxLen at h2
 go_enter func214,ntmps214
 go_wp2
 go_loopw [8] (fun t wr=>∃ pre rest,t=.int .i64 (pre.length:Nat)/\aA w wr/\Hid (xs=pre++rest)/\Hid (∀ x∈pre,p x=false)) (fun t _=>xs.length-(intOf t).toNat)
 case atStart=>exact ⟨[],xs,rfl,aA.refl _,rfl,by intro x hx;simp at hx⟩
 case round =>
  obtain ⟨pre,rest,rfl,hE,HP,HA⟩:=hrel;have hlen:xs.length=pre.length+rest.length:=by rw [HP.out];simp
  cases rest with
  | nil =>
   have:¬ (pre.length<xs.length):=(by simp at hlen;omega);clear hlen
   go_wp2
   go_ret;have:f_ p xs=-1:=by
    have:xs.findIdx? p=none:=(by rw [HP.out,List.append_nil,List.findIdx?_eq_none_iff];exact HA);unfold f_;rw [this]
   rw [this];exact ⟨rfl,hE⟩
  | cons x rest =>
   have hlt:pre.length<xs.length:=(by simp at hlen;omega);clear hlen;obtain ⟨b,off,rfl,hb,hcell⟩:=HC (by rw [HP.out];simp);have g1:=hE.cell (hcell pre.length x (by rw [HP.out];simp));clear hcell;have hcall:=fun W he=>HPR W x (by rw [HP.out];simp) he;cases hq:p x with
   | true =>
    have HR:Hid (f_ p xs=pre.length):=by
     unfold Hid f_;rw [HP.out,List.findIdx?_append,(List.findIdx?_eq_none_iff (xs:=pre)).2 HA.out,List.findIdx?_cons,hq];simp
    rw [hq] at hcall;have HCALL:=np hcall;clear hcall hq;go_wp2_with (go_at_fn g;refine (HCALL _ hE).mono ?_;rintro e w' ⟨rfl,rD⟩);go_ret;rw [HR.out];exact ⟨rfl,hE.trans (by assumption)⟩
   | false =>
    have zm:Hid (∀ y∈pre++[x],p y=false):=by
     intro y hy;rcases List.mem_append.1 hy with hy | hy;·exact HA y hy
     ·rw [List.mem_singleton.1 hy];exact hq
    rw [hq] at hcall;have HCALL:=np hcall;clear hcall hq;go_wp2_with (go_at_fn g;refine (HCALL _ hE).mono ?_;rintro e w' ⟨rfl,rD⟩);go_roundw
    case rel=>exact ⟨pre++[x],rest,by simp,hE.trans (by assumption),by unfold Hid;rw [HP.out];simp,zm⟩
    case measure=>simp [intOf];omega
theorem Z1_ (xs:oQ) (v:Value) (g:Nat) (lb:Array Value) (p:Int->Bool) (w:World) (h:aK w v xs) (eg:∀ args w,(callFunc g args).run prog w=.ok (.enter g args) w) (hp:Z0D g lb p w xs) :
  oL 117 #[v,.func (.func g) #[] lb] w (.bool (xs.any p)):=by
 have hcall:=X7_ xs v g lb p w h eg hp;cases hf:xs.findIdx? p with
 | none =>
  have HR:Hid (xs.any p=false):=by
   unfold Hid;rw [List.findIdx?_eq_none_iff] at hf;simpa using hf
  unfold f_ at hcall;rw [hf] at hcall;have HCALL:=np hcall;clear hcall hf hp h
  go_enter func117,ntmps117
  go_wp2_with (go_at_call 214;refine HCALL.mono ?_;rintro e w' ⟨rfl,rD⟩);go_ret;rw [HR.out];exact ⟨rfl,by assumption⟩
 | some i =>
  have HR:Hid (xs.any p=true):=by
   unfold Hid;rw [List.any_eq_true];obtain ⟨hi,xN,_⟩:=List.findIdx?_eq_some_iff_getElem.1 hf;exact ⟨_,List.getElem_mem hi,xN⟩
  have xU:(0:Int)<=(i:Int):=by omega
  unfold f_ at hcall;rw [hf] at hcall;have HCALL:=np hcall;clear hcall hf hp h
  go_enter func117,ntmps117
  go_wp2_with (go_at_call 214;refine HCALL.mono ?_;rintro e w' ⟨rfl,rD⟩);go_ret;rw [HR.out];exact ⟨rfl,by assumption⟩
theorem J7_ (n:Int) (w:World):oM 199 #[.int .i64 n] w (.bool (!de n)):=by
 by_cases h:n<=1000000000
 ·by_cases h2:-1000000000<=n
  ·go_enter func199,ntmps199
   go_wp2
   go_ret;exact ⟨by simp [de,h,h2];try omega,rfl⟩
  ·go_enter func199,ntmps199
   go_wp2
   go_ret;exact ⟨by simp [de,h,h2];try omega,rfl⟩
 ·go_enter func199,ntmps199
  go_wp2
  go_ret;exact ⟨by simp [de,h];try omega,rfl⟩
def iN (n:Nat):oP->Int
 | []=>0
 | r::l=>if 12<r.length then 4 else if r.length=n then (if r.any (fun x=>!de x) then 4 else iN n l) else 5
def cM (xss:oP):Int:=if 12<xss.length then 4 else iN (xss.headD []).length xss
theorem mF (xss:oP) (v:Value) (w:World) (h:aV w v xss) :
  oL 100 #[v] w (.int .i64 (cM xss)):=by
 obtain ⟨a,c,rfl,h1,h2,-,hc⟩:=aP.open h;have HC:=np hc;unfold maxLen at h2;clear h hc;by_cases hl:12<xss.length
 ·have HT:Hid (cM xss=4):=by unfold Hid cM;rw [if_pos hl]
  have sE:(12:Int)<(xss.length:Int):=by omega
  go_enter func100,ntmps100
  go_wp2_with fail;go_ret;exact ⟨by rw [HT.out];rfl,aA.refl _⟩
 ·have HT:Hid (cM xss=iN (xss.headD []).length xss):=by unfold Hid cM;rw [if_neg hl]
  have sE:¬ (12:Int)<(xss.length:Int):=by omega
  obtain ⟨n,hn⟩:=oO ((xss.headD []).length);rw [<- hn] at HT;have HN:=np hn;clear hn
  go_enter func100,ntmps100
  go_wp2_with fail
  go_loopw [10] (fun t wr=>∃ j:Nat,j<=xss.length/\t=.int .i64 j/\aA w wr/\Hid (cM xss=iN n (xss.drop j))) (fun t _=>xss.length-(intOf t).toNat)
  case atStart=>exact ⟨0,by omega,rfl,aA.refl _,HT⟩
  case round =>
   obtain ⟨j,hj,rfl,hE,HD⟩:=hrel;obtain ⟨wo,rfl⟩:∃ wo:World,wo=wr:=⟨_,rfl⟩;have HE:=np hE;by_cases hlt:j<xss.length
   ·obtain ⟨b,off,rfl,hb,hcell⟩:=HC (by intro e;simp [e] at hlt);obtain ⟨xs,hx⟩:∃ x,xss[j]?=some x:=⟨xss[j],ns hlt⟩;obtain ⟨ys,hy⟩:∃ y,xss[0]?=some y:=⟨xss[0]'(by omega),ns _⟩;have x7:ys.length=n:=by
     rw [HN.out];cases xss with
     | nil=>simp at hlt
     | cons z t=>simp at hy;rw [hy];rfl
    obtain ⟨vx,pV,o7⟩:=hcell j xs hx;obtain ⟨vy,zo,rC⟩:=hcell 0 ys hy;rw [Nat.add_zero] at rC;obtain ⟨ax,cx,rfl,-,-,-,-,-⟩:=aK.open pV;obtain ⟨ay,cy,rfl,-,-,-,-,-⟩:=aK.open zo;rw [x7] at rC;have g1:=hE.cell o7;have g2:=hE.cell rC;have HX:=np (aK.ext pV hE);have HDS:Hid (cM xss=if 12<xs.length then 4 else if xs.length=n then (if xs.any (fun x=>!de x) then 4 else iN n (xss.drop (j+1))) else 5):=by
     unfold Hid;rw [HD.out,J2_ hx];rfl
    have hpos:0<xss.length:=(by omega);have HANY:=np (fun W he=>Z1_ xs _ 199 #[] (fun x=>!de x) W (HX.ext (w':=W) he) (enters_of func199 (by kernel_rfl) rfl) (fun W x _ _=>(J7_ x W).mono fun _ _ ⟨he,hw⟩=>⟨he,hw▸aA.refl _⟩));clear hcell hx hy x7 pV zo o7 rC hE;by_cases q1:12<xs.length
    ·have q2:(12:Int)<(xs.length:Int):=(by omega);rw [if_pos q1] at HDS;go_wp2_with fail;go_ret;exact ⟨by rw [HDS.out];rfl,HE⟩
    ·have q2:¬ (12:Int)<(xs.length:Int):=(by omega);rw [if_neg q1] at HDS;by_cases q3:xs.length=n
     ·rw [if_pos q3] at HDS;have q4:((xs.length:Int) != (n:Int))=false:=(by simp [q3]);cases tl:xs.any (fun x=>!de x) with
      | true =>
       rw [tl,if_pos rfl] at HDS;rw [tl] at HANY;clear q3 tl;go_wp2_with fail;refine p_ (HANY _ (aA.refl _)) (aA.trans HE) ?_;intro w1 HE1;clear HANY;go_wp2_with fail;go_ret;exact ⟨by rw [HDS.out];rfl,HE1⟩
      | false =>
       rw [tl,if_neg Bool.false_ne_true] at HDS;rw [tl] at HANY;clear q3 tl;go_wp2_with fail;refine p_ (HANY _ (aA.refl _)) (aA.trans HE) ?_;intro w1 HE1;clear HANY;go_wp2_with fail;go_roundw
       case rel=>exact ⟨j+1,by omega,by go_num,HE1,HDS⟩
       case measure=>simp [intOf];omega
     ·rw [if_neg q3] at HDS;have q4:((xs.length:Int) != (n:Int))=true:=(by simp;omega);clear q3;go_wp2_with fail;go_ret;exact ⟨by rw [HDS.out];rfl,HE⟩
   ·obtain rfl:j=xss.length:=(by omega);have HF:Hid (cM xss=0):=(by unfold Hid;rw [HD.out,List.drop_length];rfl);clear HD hE;go_wp2_with fail;go_ret;exact ⟨by rw [HF.out];rfl,HE⟩
theorem O4_ (xs ys:oQ) (u v:Value) (w:World) (h:aK w u xs) (k:aK w v ys) :
  oL 129 #[u,v] w (.bool (xs == ys)):=by
 obtain ⟨a,c,rfl,h1,h2,-,hxb,hc⟩:=h.open;obtain ⟨a',c',rfl,k1,k2,-,hyb,kc⟩:=k.open;have HC:=np hc;have KC:=np kc;clear hc kc h k hxb hyb;unfold maxLen at h2 k2;by_cases hl:xs.length=ys.length
 ·have hn:((xs.length:Int) != (ys.length:Int))=false:=by simp [hl]
  have qU:xs.length<=ys.length:=by omega
  have xS:ys.length<=xs.length:=by omega
  have HL:=np hl;clear hl
  go_enter func129,ntmps129
  go_wp2
  go_loopw [13] (fun t wr=>∃ j:Nat,j<=xs.length/\t=.int .i64 j/\aA w wr/\Hid (xs.take j=ys.take j)) (fun t _=>xs.length-(intOf t).toNat)
  case atStart=>exact ⟨0,by omega,rfl,aA.refl _,rfl⟩
  case round =>
   obtain ⟨j,hj,rfl,hE,HT⟩:=hrel;by_cases hlt:j<xs.length
   ·obtain ⟨b,off,rfl,hb,hcell⟩:=HC (by intro e;simp [e] at hlt);obtain ⟨b',off',rfl,pd,om⟩:=KC.out (by intro e;simp [e] at qU;simp [qU] at hlt);obtain ⟨x,hx⟩:∃ x,xs[j]?=some x:=⟨xs[j],ns hlt⟩;obtain ⟨y,hy⟩:∃ y,ys[j]?=some y:=⟨ys[j]'(by omega),ns _⟩;have g1:=hE.cell (hcell j x hx);have g2:=hE.cell (om j y hy);have q1:(j:Int)<(xs.length:Int):=(by omega);have q2:(j:Int)<(ys.length:Int):=(by omega);have HX:=np hx;have HY:=np hy;clear hcell om hx hy;by_cases hxy:x=y
    ·have hb:(x != y)=false:=(by simp [hxy]);have zc:Hid (xs.take (j+1)=ys.take (j+1)):=by
      unfold Hid;rw [nz,nz,HX.out,HY.out,HT.out,hxy]
     clear hxy
     go_wp2
     go_quiet (fail)
     go_wp2
     go_roundw
     case rel=>exact ⟨j+1,by omega,by go_num,aA.draws hE _,zc⟩
     case measure=>simp [intOf];omega
    ·have hb:(x != y)=true:=(by simp [hxy]);have HF:Hid ((xs == ys)=false):=by
      unfold Hid;rw [beq_eq_false_iff_ne];intro e;have e1:=HX.out;have e2:=HY.out;rw [e,e2] at e1;exact hxy (by simpa using e1.symm)
     clear hxy
     go_wp2
     go_quiet (fail)
     go_wp2
     go_ret;rw [HF.out];exact ⟨rfl,aA.draws hE _⟩
   ·have hge:xs.length<=j:=(by omega);have zb:Hid ((xs == ys)=true):=by
     unfold Hid;have e:=HT.out;rw [List.take_of_length_le (by omega),List.take_of_length_le (by omega)] at e;simp [e]
    go_wp2
    go_ret;rw [zb.out];exact ⟨rfl,hE⟩
 ·have hn:((xs.length:Int) != (ys.length:Int))=true:=by simp;omega
  have HF:Hid ((xs == ys)=false):=by
   unfold Hid;rw [beq_eq_false_iff_ne];intro e;exact hl (by rw [e])
  clear hl
  go_enter func129,ntmps129
  go_wp2
  go_ret;rw [HF.out];exact ⟨rfl,aA.refl _⟩
theorem Z3a (n:Int) (w:World):oM 87 #[.int .i64 n] w (.bool (de n)):=by
 by_cases h:-1000000000<=n
 ·by_cases h2:n<=1000000000
  ·go_enter func87,ntmps87
   go_wp2
   go_ret;exact ⟨by simp [de,h,h2],rfl⟩
  ·go_enter func87,ntmps87
   go_wp2
   go_ret;exact ⟨by simp [de,h,h2],rfl⟩
 ·go_enter func87,ntmps87
  go_wp2
  go_ret;exact ⟨by simp [de];omega,rfl⟩
theorem b4_ (n:Int) (w:World):oM 195 #[.int .i64 n] w (.bool (!de n)):=by
 go_enter func195,ntmps195
 go_wp2_with (go_at_call 87;refine q_ (Z3a _ _) ?_);go_ret;exact ⟨rfl,rfl⟩
def kh (r:oQ):Prop:=r.length<=64/\∀ x∈r,-1000000000<=x/\x<=1000000000
def dC (r:oQ):Int:=if 64<r.length then 4 else if r.any (fun n=>!de n) then 4 else 0
theorem mA (r:oQ):dC r=0↔kh r:=by
 unfold dC kh;by_cases h:64<r.length;·simp [h];omega
 ·rw [if_neg h];by_cases h2:r.any (fun n=>!de n)=true
  ·rw [if_pos h2];obtain ⟨x,hx,hf⟩:=List.any_eq_true.1 h2;simp only [Bool.not_eq_true',Bool.eq_false_iff,ne_eq,nA] at hf;constructor;·intro e;simp at e
   ·intro ⟨_,h⟩;exact absurd (h x hx) hf
  ·rw [if_neg h2];simp only [true_iff];refine ⟨by omega,fun x hx=>?_⟩;have:=List.any_eq_false.1 (by simpa using h2:r.any (fun n=>!de n)=false) x hx;simpa [nA] using this
theorem o5_ (r:oQ):dC r=0\/dC r=4:=by
 unfold dC;split;·exact .inr rfl
 ·split
  ·exact .inr rfl
  ·exact .inl rfl
theorem V0_ (xs:oQ) (v:Value) (w:World) (h:aK w v xs) :
  oL 86 #[v] w (.int .i64 (dC xs)):=by
 have HC:=np (Z1_ xs v 195 #[] (fun n=>!de n) w h (enters_of func195 (by kernel_rfl) rfl) (fun W x _ _=>(b4_ x W).mono fun _ _ ⟨he,hw⟩=>⟨he,hw▸aA.refl _⟩));obtain ⟨a,c,rfl,-,-,-,-,-⟩:=h.open;by_cases hl:64<xs.length
 ·have HQ:Hid (dC xs=4):=by unfold Hid dC;rw [if_pos hl]
  have sE:(64:Int)<(xs.length:Int):=by omega
  clear h
  go_enter func86,ntmps86
  go_wp2_with (go_at_call 117;refine HC.mono ?_;rintro e w' ⟨rfl,rD⟩);go_ret;exact ⟨by rw [HQ.out];rfl,aA.refl _⟩
 ·have sE:¬ (64:Int)<(xs.length:Int):=by omega
  cases ha:xs.any (fun n=>!de n) with
  | true =>
   have HQ:Hid (dC xs=4):=(by unfold Hid dC;rw [if_neg hl,if_pos ha]);rw [ha] at HC;clear h ha
   go_enter func86,ntmps86
   go_wp2_with (go_at_call 117;refine HC.mono ?_;rintro e w' ⟨rfl,rD⟩);go_ret;exact ⟨by rw [HQ.out];rfl,by assumption⟩
  | false =>
   have HQ:Hid (dC xs=0):=(by unfold Hid dC;rw [if_neg hl,if_neg (by simp [ha])]);rw [ha] at HC;clear h ha
   go_enter func86,ntmps86
   go_wp2_with (go_at_call 117;refine HC.mono ?_;rintro e w' ⟨rfl,rD⟩);go_ret;exact ⟨by rw [HQ.out];rfl,by assumption⟩
def ed (n:Int):oP->Int
 | []=>0
 | r::l=>if dC r=0 then (if (r.length:Int)=n then ed n l else 5) else dC r
theorem t4_ (xss:oP) (n:Int) (v:Value) (w:World) (h:aV w v xss) :
  oL 226 #[v,.int .i64 n] w (.int .i64 (ed n xss)):=by
 obtain ⟨a,c,rfl,h1,h2,-,hc⟩:=aP.open h;have HC:=np hc;unfold maxLen at h2;clear h hc
 go_enter func226,ntmps226
 go_wp2_with fail
 go_loopw [10] (fun t wr=>∃ j:Nat,j<=xss.length/\t=.int .i64 j/\Hid (ed n (xss.drop j)=ed n xss)/\aA w wr) (fun t _=>xss.length-(intOf t).toNat)
 case atStart=>exact ⟨0,by omega,rfl,by unfold Hid;rw [List.drop_zero],aA.refl _⟩
 case round =>
  obtain ⟨j,hj,rfl,HR,hE⟩:=hrel;by_cases hlt:j<xss.length
  ·obtain ⟨b,off,rfl,hb,hcell⟩:=HC (by intro e;simp [e] at hlt);obtain ⟨x,hx⟩:∃ x,xss[j]?=some x:=⟨xss[j],ns hlt⟩;obtain ⟨u,hu,sK⟩:=hcell j x hx;have g1:=hE.cell sK;have hd:=J2_ hx;have hr:=HR.out;rw [hd] at hr;have HCK:=np (V0_ x u wr (hu.ext hE));obtain ⟨a2,c2,rfl,k1,k2,-,-,-⟩:=hu.open;clear hcell hx hd HR hu sK;by_cases he:dC x=0
   ·rw [he] at HCK;by_cases hl:(x.length:Int)=n
    ·have HR2:Hid (ed n (xss.drop (j+1))=ed n xss):=by
      unfold Hid;rw [<- hr];simp only [ed];rw [if_pos he,if_pos hl]
     have hb:((x.length:Int) != n)=false:=(by simp [hl]);clear hr he hl;go_wp2_with fail;refine HCK.mono ?_;rintro e w1 ⟨rfl,hE1⟩;have hE2:=aA.trans hE hE1;clear hE1 HCK;go_wp2_with fail;go_roundw
     case rel=>exact ⟨j+1,by omega,by go_num,HR2,hE2⟩
     case measure=>simp [intOf];omega
    ·have HQ:Hid (ed n xss=5):=by
      unfold Hid;rw [<- hr];simp only [ed];rw [if_pos he,if_neg hl]
     have hb:((x.length:Int) != n)=true:=(by simp [hl]);clear hr he hl;go_wp2_with fail;refine p_ HCK (aA.trans hE) ?_;intro w1 HE2;clear HCK;go_wp2_with fail;go_ret;exact ⟨by rw [HQ.out];rfl,HE2⟩
   ·have h4:dC x=4:=(o5_ x).resolve_left he;have HQ:Hid (ed n xss=4):=by
     unfold Hid;rw [<- hr];simp only [ed];rw [if_neg he,h4]
    rw [h4] at HCK;clear hr he h4;go_wp2_with fail;refine p_ HCK (aA.trans hE) ?_;intro w1 HE2;clear HCK;go_wp2_with fail;go_ret;exact ⟨by rw [HQ.out];rfl,HE2⟩
  ·obtain rfl:j=xss.length:=(by omega);have HQ:Hid (ed n xss=0):=by
    have:=HR.out;rw [List.drop_length] at this;exact this.symm
   clear HR;go_wp2_with fail;go_ret;exact ⟨by rw [HQ.out];rfl,hE⟩
def dA (n:Int) (xss:oP):Int:=if n<0\/12<n then 3 else if 12<xss.length then 4 else ed n xss
theorem O6_ (xss:oP) (n:Int) (v:Value) (w:World) (h:aV w v xss) :
  oL 130 #[.int .i64 n,v] w (.int .i64 (dA n xss)):=by
 have HC:=np (t4_ xss n v w h);obtain ⟨a,c,rfl,h1,h2,-,hc⟩:=aP.open h;clear h hc;by_cases q1:n<0
 ·have HL:Hid (dA n xss=3):=by unfold Hid dA;rw [if_pos (.inl q1)]
  go_enter func130,ntmps130
  go_wp2_with fail;go_ret;exact ⟨by rw [HL.out];rfl,aA.refl _⟩
 ·by_cases q2:12<n
  ·have HL:Hid (dA n xss=3):=by unfold Hid dA;rw [if_pos (.inr q2)]
   go_enter func130,ntmps130
   go_wp2_with fail;go_ret;exact ⟨by rw [HL.out];rfl,aA.refl _⟩
  ·by_cases q3:12<xss.length
   ·have HL:Hid (dA n xss=4):=(by unfold Hid dA;rw [if_neg (by omega),if_pos q3]);have q4:(12:Int)<(xss.length:Int):=by omega
    go_enter func130,ntmps130
    go_wp2_with fail;go_ret;exact ⟨by rw [HL.out];rfl,aA.refl _⟩
   ·have HL:Hid (dA n xss=ed n xss):=(by unfold Hid dA;rw [if_neg (by omega),if_neg q3]);have q4:¬ (12:Int)<(xss.length:Int):=by omega
    go_enter func130,ntmps130
    go_wp2_with fail;refine o_ HC ?_;intro w1 HE1;clear HC;go_wp2_with fail;go_ret;exact ⟨by rw [HL.out];rfl,HE1⟩
theorem F2_ (x:Int) (w:World):oM 349 #[.int .i64 x] w (.bool (x != 0)):=by
 go_enter func349,ntmps349
 go_wp2
 go_ret;exact ⟨rfl,rfl⟩
theorem x5_ (xs:oQ) (v:Value) (w:World) (h:aK w v xs) :
  oL 308 #[v] w (.int .i64 (f_ (· != 0) xs)):=by
 have HC:=np (X7_ xs v 349 #[] (· != 0) w h (enters_of func349 (by kernel_rfl) rfl) (fun W x _ _=>(F2_ x W).mono fun _ _ ⟨he,hw⟩=>⟨he,hw▸aA.refl _⟩));clear h
 go_enter func308,ntmps308
 go_wp2_with (go_at_call 214;refine HC.mono ?_;rintro e w' ⟨rfl,rD⟩);go_ret;exact ⟨rfl,by assumption⟩
def kQ {α:Type} (p:α->Bool) (xs:List α):Int:=match xs.findIdx? p with | some i=>(i:Int) | none=>-1
def m2_ {α:Type} (R:World->Value->α->Prop) (g:Nat) (lb:Array Value) (p:α->Bool) (w:World) (xs:List α):Prop :=
 ∀ W x a,x∈xs->aA w W->R W a x->Calls prog g (#[a]++lb) W fun e W'=>e=.returned (.bool (p x))/\aA W W'
theorem N7_ {α:Type} {R:World->Value->α->Prop} (hR:∀ w w' v x,aA w w'->R w v x->R w' v x) (xs:List α) (v:Value) (g:Nat) (lb:Array Value) (p:α->Bool) (w:World) (h:aR 1 (aP R) w v xs) (eg:∀ args w,(callFunc g args).run prog w=.ok (.enter g args) w) (hp:m2_ R g lb p w xs) :
  oL 230 #[v,.func (.func g) #[] lb] w (.int .i64 (kQ p xs)):=by
 obtain ⟨a,c,rfl,h1,h2,-,hc⟩:=aP.open h;have HC:=np hc;have HPR:=np hp;have HR:=np hR;clear hc h hp hR;unfold maxLen at h2
 go_enter func230,ntmps230
 go_wp2
 go_loopw [8] (fun t wr=>∃ pre rest,t=.int .i64 (pre.length:Nat)/\aA w wr/\Hid (xs=pre++rest)/\Hid (∀ x∈pre,p x=false)) (fun t _=>xs.length-(intOf t).toNat)
 case atStart=>exact ⟨[],xs,rfl,aA.refl _,rfl,by intro x hx;simp at hx⟩
 case round =>
  obtain ⟨pre,rest,rfl,hE,HP,HA⟩:=hrel;obtain ⟨wo,rfl⟩:∃ wo:World,wo=wr:=⟨_,rfl⟩;have hlen:xs.length=pre.length+rest.length:=by rw [HP.out];simp
  cases rest with
  | nil =>
   have:¬ (pre.length<xs.length):=(by simp at hlen;omega);clear hlen
   go_wp2
   go_ret;have:kQ p xs=-1:=by
    have:xs.findIdx? p=none:=(by rw [HP.out,List.append_nil,List.findIdx?_eq_none_iff];exact HA);unfold kQ;rw [this]
   rw [this];exact ⟨rfl,hE⟩
  | cons x rest =>
   have hlt:pre.length<xs.length:=(by simp at hlen;omega);clear hlen;obtain ⟨b,off,rfl,hb,hcell⟩:=HC (by rw [HP.out];simp);obtain ⟨vx,pV,o7⟩:=hcell pre.length x (by rw [HP.out];simp);have g1:=hE.cell o7;have hcall:=HPR wo x vx (by rw [HP.out];simp) hE (HR _ _ _ _ hE pV);clear hcell pV o7;cases hq:p x with
   | true =>
    have HRR:Hid (kQ p xs=pre.length):=by
     unfold Hid kQ;rw [HP.out,List.findIdx?_append,(List.findIdx?_eq_none_iff (xs:=pre)).2 HA.out,List.findIdx?_cons,hq];simp
    rw [hq] at hcall;have HCALL:=np hcall;clear hcall hq;go_wp2_with (go_at_fn g;refine HCALL.mono ?_;rintro e w' ⟨rfl,rD⟩);go_ret;rw [HRR.out];exact ⟨rfl,hE.trans (by assumption)⟩
   | false =>
    have zm:Hid (∀ y∈pre++[x],p y=false):=by
     intro y hy;rcases List.mem_append.1 hy with hy | hy;·exact HA y hy
     ·rw [List.mem_singleton.1 hy];exact hq
    rw [hq] at hcall;have HCALL:=np hcall;clear hcall hq;go_wp2_with (go_at_fn g;refine HCALL.mono ?_;rintro e w' ⟨rfl,rD⟩);go_roundw
    case rel=>exact ⟨pre++[x],rest,by simp,hE.trans (by assumption),by unfold Hid;rw [HP.out];simp,zm⟩
    case measure=>simp [intOf];omega
theorem W3_ {α:Type} {R:World->Value->α->Prop} (hR:∀ w w' v x,aA w w'->R w v x->R w' v x) (xs:List α) (v:Value) (g:Nat) (lb:Array Value) (p:α->Bool) (w:World) (h:aR 1 (aP R) w v xs) (eg:∀ args w,(callFunc g args).run prog w=.ok (.enter g args) w) (hp:m2_ R g lb p w xs) :
  oL 135 #[v,.func (.func g) #[] lb] w (.bool (xs.any p)):=by
 have hcall:=N7_ hR xs v g lb p w h eg hp;cases hf:xs.findIdx? p with
 | none =>
  have HRR:Hid (xs.any p=false):=by
   unfold Hid;rw [List.findIdx?_eq_none_iff] at hf;simpa using hf
  unfold kQ at hcall;rw [hf] at hcall;have HCALL:=np hcall;clear hcall hf hp h hR
  go_enter func135,ntmps135
  go_wp2_with (go_at_call 230;refine HCALL.mono ?_;rintro e w' ⟨rfl,rD⟩);go_ret;rw [HRR.out];exact ⟨rfl,by assumption⟩
 | some i =>
  have HRR:Hid (xs.any p=true):=by
   unfold Hid;rw [List.any_eq_true];obtain ⟨hi,xN,_⟩:=List.findIdx?_eq_some_iff_getElem.1 hf;exact ⟨_,List.getElem_mem hi,xN⟩
  have xU:(0:Int)<=(i:Int):=by omega
  unfold kQ at hcall;rw [hf] at hcall;have HCALL:=np hcall;clear hcall hf hp h hR
  go_enter func135,ntmps135
  go_wp2_with (go_at_call 230;refine HCALL.mono ?_;rintro e w' ⟨rfl,rD⟩);go_ret;rw [HRR.out];exact ⟨rfl,by assumption⟩
end Go.Proofs.YtoonaddcfakamaaGreatDoor
