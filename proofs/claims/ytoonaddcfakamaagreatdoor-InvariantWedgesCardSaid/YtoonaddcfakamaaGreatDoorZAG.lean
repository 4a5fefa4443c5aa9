import Derived.Test.YtoonaddcfakamaaGreatDoorZAF
import Derived.Test.YtoonaddcfakamaaGreatDoorZAA
import Derived.Test.YtoonaddcfakamaaGreatDoorProg
import Derived.Deep.Cut
set_option linter.unusedVariables false
set_option linter.unusedSimpArgs false
set_option maxRecDepth 1000000
set_option maxHeartbeats 4000000
namespace Go.Proofs.YtoonaddcfakamaaGreatDoor
open Go.RowKit Go.Proofs.Tryz
theorem Z4x (n:Int) (w:World):pJ 87 #[.int .i64 n] w (.bool (dx n)):=by
 by_cases h:-1000000000<=n
 ·by_cases h2:n<=1000000000
  ·go_enter func87,ntmps87
   go_wp2
   go_ret;exact ⟨by simp [dx,h,h2],rfl⟩
  ·go_enter func87,ntmps87
   go_wp2
   go_ret;exact ⟨by simp [dx,h,h2],rfl⟩
 ·go_enter func87,ntmps87
  go_wp2
  go_ret;exact ⟨by simp [dx];omega,rfl⟩
theorem Z0C (n:Int) (w:World):pJ 195 #[.int .i64 n] w (.bool (!dx n)):=by
 go_enter func195,ntmps195
 go_wp2_with (go_at_call 87;refine r_ (Z4x _ _) ?_);go_ret;exact ⟨rfl,rfl⟩
def lg (r:pN):Prop:=r.length<=64/\∀ x∈r,-1000000000<=x/\x<=1000000000
def dM (r:pN):Int:=if 64<r.length then 4 else if r.any (fun n=>!dx n) then 4 else 0
theorem oK (r:pN):dM r=0↔lg r:=by
 unfold dM lg;by_cases h:64<r.length;·simp [h];omega
 ·rw [if_neg h];by_cases h2:r.any (fun n=>!dx n)=true
  ·rw [if_pos h2];obtain ⟨x,hx,hf⟩:=List.any_eq_true.1 h2;simp only [Bool.not_eq_true',Bool.eq_false_iff,ne_eq,nu] at hf;constructor;·intro e;simp at e
   ·intro ⟨_,h⟩;exact absurd (h x hx) hf
  ·rw [if_neg h2];simp only [true_iff];refine ⟨by omega,fun x hx=>?_⟩;have:=List.any_eq_false.1 (by simpa using h2:r.any (fun n=>!dx n)=false) x hx;simpa [nu] using this
theorem l8_ (r:pN):dM r=0\/dM r=4:=by
 unfold dM;split;·exact .inr rfl
 ·split
  ·exact .inr rfl
  ·exact .inl rfl
theorem W8_ (xs:pN) (v:Value) (w:World) (h:aM w v xs) :
  pI 86 #[v] w (.int .i64 (dM xs)):=by
 have HC:=oZ (Z1_ xs v 195 #[] (fun n=>!dx n) w h (enters_of func195 (by kernel_rfl) rfl) (fun W x _ _=>(Z0C x W).mono fun _ _ ⟨he,hw⟩=>⟨he,hw▸aA.refl _⟩));obtain ⟨a,c,rfl,-,-,-,-,-⟩:=h.open;by_cases hl:64<xs.length
 ·have HQ:Hid (dM xs=4):=by unfold Hid dM;rw [if_pos hl]
  have tr:(64:Int)<(xs.length:Int):=by omega
  clear h
  go_enter func86,ntmps86
  go_wp2_with (go_at_call 117;refine HC.mono ?_;rintro e w' ⟨rfl,sX⟩);go_ret;exact ⟨by rw [HQ.out];rfl,aA.refl _⟩
 ·have tr:¬ (64:Int)<(xs.length:Int):=by omega
  cases ha:xs.any (fun n=>!dx n) with
  | true =>
   have HQ:Hid (dM xs=4):=(by unfold Hid dM;rw [if_neg hl,if_pos ha]);rw [ha] at HC;clear h ha
   go_enter func86,ntmps86
   go_wp2_with (go_at_call 117;refine HC.mono ?_;rintro e w' ⟨rfl,sX⟩);go_ret;exact ⟨by rw [HQ.out];rfl,by assumption⟩
  | false =>
   have HQ:Hid (dM xs=0):=(by unfold Hid dM;rw [if_neg hl,if_neg (by simp [ha])]);rw [ha] at HC;clear h ha
   go_enter func86,ntmps86
   go_wp2_with (go_at_call 117;refine HC.mono ?_;rintro e w' ⟨rfl,sX⟩);go_ret;exact ⟨by rw [HQ.out];rfl,by assumption⟩
def ez (n:Int):pM->Int
 | []=>0
 | r::l=>if dM r=0 then (if (r.length:Int)=n then ez n l else 5) else dM r
theorem r8_ (xss:pM) (n:Int) (v:Value) (w:World) (h:aw w v xss) :
  pI 226 #[v,.int .i64 n] w (.int .i64 (ez n xss)):=by
 obtain ⟨a,c,rfl,h1,h2,-,hc⟩:=ae.open h;have HC:=oZ hc;unfold maxLen at h2;clear h hc
 go_enter func226,ntmps226
 go_wp2_with fail
 go_loopw [10] (fun t wr=>∃ j:Nat,j<=xss.length/\t=.int .i64 j/\Hid (ez n (xss.drop j)=ez n xss)/\aA w wr) (fun t _=>xss.length-(intOf t).toNat)
 case atStart=>exact ⟨0,by omega,rfl,by unfold Hid;rw [List.drop_zero],aA.refl _⟩
 case round =>
  obtain ⟨j,hj,rfl,HR,hE⟩:=hrel;by_cases hlt:j<xss.length
  ·obtain ⟨b,off,rfl,hb,pP⟩:=HC (by intro e;simp [e] at hlt);obtain ⟨x,hx⟩:∃ x,xss[j]?=some x:=⟨xss[j],oc hlt⟩;obtain ⟨u,hu,vB⟩:=pP j x hx;have g1:=hE.cell vB;have hd:=I2_ hx;have hr:=HR.out;rw [hd] at hr;have HCK:=oZ (W8_ x u wr (hu.ext hE));obtain ⟨a2,c2,rfl,k1,k2,-,-,-⟩:=hu.open;clear pP hx hd HR hu vB;by_cases he:dM x=0
   ·rw [he] at HCK;by_cases hl:(x.length:Int)=n
    ·have HR2:Hid (ez n (xss.drop (j+1))=ez n xss):=by
      unfold Hid;rw [<- hr];simp only [ez];rw [if_pos he,if_pos hl]
     have hb:((x.length:Int) != n)=false:=(by simp [hl]);clear hr he hl;go_wp2_with fail;refine HCK.mono ?_;rintro e w1 ⟨rfl,hE1⟩;have hE2:=aA.trans hE hE1;clear hE1 HCK;go_wp2_with fail;go_roundw
     case rel=>exact ⟨j+1,by omega,by go_num,HR2,hE2⟩
     case measure=>simp [intOf];omega
    ·have HQ:Hid (ez n xss=5):=by
      unfold Hid;rw [<- hr];simp only [ez];rw [if_pos he,if_neg hl]
     have hb:((x.length:Int) != n)=true:=(by simp [hl]);clear hr he hl;go_wp2_with fail;refine q_ HCK (aA.trans hE) ?_;intro w1 HE2;clear HCK;go_wp2_with fail;go_ret;exact ⟨by rw [HQ.out];rfl,HE2⟩
   ·have h4:dM x=4:=(l8_ x).resolve_left he;have HQ:Hid (ez n xss=4):=by
     unfold Hid;rw [<- hr];simp only [ez];rw [if_neg he,h4]
    rw [h4] at HCK;clear hr he h4;go_wp2_with fail;refine q_ HCK (aA.trans hE) ?_;intro w1 HE2;clear HCK;go_wp2_with fail;go_ret;exact ⟨by rw [HQ.out];rfl,HE2⟩
  ·obtain rfl:j=xss.length:=(by omega);have HQ:Hid (ez n xss=0):=by
    have:=HR.out;rw [List.drop_length] at this;exact this.symm
   clear HR;go_wp2_with fail;go_ret;exact ⟨by rw [HQ.out];rfl,hE⟩
def dJ (n:Int) (xss:pM):Int:=if n<0\/12<n then 3 else if 12<xss.length then 4 else ez n xss
theorem N2_ (xss:pM) (n:Int) (v:Value) (w:World) (h:aw w v xss) :
  pI 130 #[.int .i64 n,v] w (.int .i64 (dJ n xss)):=by
 have HC:=oZ (r8_ xss n v w h);obtain ⟨a,c,rfl,h1,h2,-,hc⟩:=ae.open h;clear h hc;by_cases q1:n<0
 ·have HL:Hid (dJ n xss=3):=by unfold Hid dJ;rw [if_pos (.inl q1)]
  go_enter func130,ntmps130
  go_wp2_with fail;go_ret;exact ⟨by rw [HL.out];rfl,aA.refl _⟩
 ·by_cases q2:12<n
  ·have HL:Hid (dJ n xss=3):=by unfold Hid dJ;rw [if_pos (.inr q2)]
   go_enter func130,ntmps130
   go_wp2_with fail;go_ret;exact ⟨by rw [HL.out];rfl,aA.refl _⟩
  ·by_cases q3:12<xss.length
   ·have HL:Hid (dJ n xss=4):=(by unfold Hid dJ;rw [if_neg (by omega),if_pos q3]);have q4:(12:Int)<(xss.length:Int):=by omega
    go_enter func130,ntmps130
    go_wp2_with fail;go_ret;exact ⟨by rw [HL.out];rfl,aA.refl _⟩
   ·have HL:Hid (dJ n xss=ez n xss):=(by unfold Hid dJ;rw [if_neg (by omega),if_neg q3]);have q4:¬ (12:Int)<(xss.length:Int):=by omega
    go_enter func130,ntmps130
    go_wp2_with fail;refine p_ HC ?_;intro w1 HE1;clear HC;go_wp2_with fail;go_ret;exact ⟨by rw [HL.out];rfl,HE1⟩
theorem E2_ (x:Int) (w:World):pJ 349 #[.int .i64 x] w (.bool (x != 0)):=by
 go_enter func349,ntmps349
 go_wp2
 go_ret;exact ⟨rfl,rfl⟩
theorem v3_ (xs:pN) (v:Value) (w:World) (h:aM w v xs) :
  pI 308 #[v] w (.int .i64 (gd (· != 0) xs)):=by
 have HC:=oZ (X8_ xs v 349 #[] (· != 0) w h (enters_of func349 (by kernel_rfl) rfl) (fun W x _ _=>(E2_ x W).mono fun _ _ ⟨he,hw⟩=>⟨he,hw▸aA.refl _⟩));clear h
 go_enter func308,ntmps308
 go_wp2_with (go_at_call 214;refine HC.mono ?_;rintro e w' ⟨rfl,sX⟩);go_ret;exact ⟨rfl,by assumption⟩
def lO {α:Type} (p:α->Bool) (xs:List α):Int:=match xs.findIdx? p with | some i=>(i:Int) | none=>-1
def j6_ {α:Type} (R:World->Value->α->Prop) (g:Nat) (lb:Array Value) (p:α->Bool) (w:World) (xs:List α):Prop :=
 ∀ W x a,x∈xs->aA w W->R W a x->Calls prog g (#[a]++lb) W fun e W'=>e=.returned (.bool (p x))/\aA W W'
theorem M5_ {α:Type} {R:World->Value->α->Prop} (hR:∀ w w' v x,aA w w'->R w v x->R w' v x) (xs:List α) (v:Value) (g:Nat) (lb:Array Value) (p:α->Bool) (w:World) (h:aN 1 (ae R) w v xs) (eg:∀ args w,(callFunc g args).run prog w=.ok (.enter g args) w) (hp:j6_ R g lb p w xs) :
  pI 230 #[v,.func (.func g) #[] lb] w (.int .i64 (lO p xs)):=by
 obtain ⟨a,c,rfl,h1,h2,-,hc⟩:=ae.open h;have HC:=oZ hc;have HPR:=oZ hp;have HR:=oZ hR;clear hc h hp hR;unfold maxLen at h2
 go_enter func230,ntmps230
 go_wp2
 go_loopw [8] (fun t wr=>∃ pre rest,t=.int .i64 (pre.length:Nat)/\aA w wr/\Hid (xs=pre++rest)/\Hid (∀ x∈pre,p x=false)) (fun t _=>xs.length-(intOf t).toNat)
 case atStart=>exact ⟨[],xs,rfl,aA.refl _,rfl,by intro x hx;simp at hx⟩
 case round =>
  obtain ⟨pre,rest,rfl,hE,HP,HA⟩:=hrel;obtain ⟨wo,rfl⟩:∃ wo:World,wo=wr:=⟨_,rfl⟩;have hlen:xs.length=pre.length+rest.length:=by rw [HP.out];simp
  cases rest with
  | nil =>
   have:¬ (pre.length<xs.length):=(by simp at hlen;omega);clear hlen
   go_wp2
   go_ret;have:lO p xs=-1:=by
    have:xs.findIdx? p=none:=(by rw [HP.out,List.append_nil,List.findIdx?_eq_none_iff];exact HA);unfold lO;rw [this]
   rw [this];exact ⟨rfl,hE⟩
  | cons x rest =>
   have hlt:pre.length<xs.length:=(by simp at hlen;omega);clear hlen;obtain ⟨b,off,rfl,hb,pP⟩:=HC (by rw [HP.out];simp);obtain ⟨vx,qc,ph⟩:=pP pre.length x (by rw [HP.out];simp);have g1:=hE.cell ph;have hcall:=HPR wo x vx (by rw [HP.out];simp) hE (HR _ _ _ _ hE qc);clear pP qc ph;cases hq:p x with
   | true =>
    have HRR:Hid (lO p xs=pre.length):=by
     unfold Hid lO;rw [HP.out,List.findIdx?_append,(List.findIdx?_eq_none_iff (xs:=pre)).2 HA.out,List.findIdx?_cons,hq];simp
    rw [hq] at hcall;have HCALL:=oZ hcall;clear hcall hq;go_wp2_with (go_at_fn g;refine HCALL.mono ?_;rintro e w' ⟨rfl,sX⟩);go_ret;rw [HRR.out];exact ⟨rfl,hE.trans (by assumption)⟩
   | false =>
    have BK:Hid (∀ y∈pre++[x],p y=false):=by
     intro y hy;rcases List.mem_append.1 hy with hy | hy;·exact HA y hy
     ·rw [List.mem_singleton.1 hy];exact hq
    rw [hq] at hcall;have HCALL:=oZ hcall;clear hcall hq;go_wp2_with (go_at_fn g;refine HCALL.mono ?_;rintro e w' ⟨rfl,sX⟩);go_roundw
    case rel=>exact ⟨pre++[x],rest,by simp,hE.trans (by assumption),by unfold Hid;rw [HP.out];simp,BK⟩
    case measure=>simp [intOf];omega
theorem J8_ {α:Type} {R:World->Value->α->Prop} (hR:∀ w w' v x,aA w w'->R w v x->R w' v x) (xs:List α) (v:Value) (g:Nat) (lb:Array Value) (p:α->Bool) (w:World) (h:aN 1 (ae R) w v xs) (eg:∀ args w,(callFunc g args).run prog w=.ok (.enter g args) w) (hp:j6_ R g lb p w xs) :
  pI 135 #[v,.func (.func g) #[] lb] w (.bool (xs.any p)):=by
 have hcall:=M5_ hR xs v g lb p w h eg hp;cases hf:xs.findIdx? p with
 | none =>
  have HRR:Hid (xs.any p=false):=by
   unfold Hid;rw [List.findIdx?_eq_none_iff] at hf;simpa using hf
  unfold lO at hcall;rw [hf] at hcall;have HCALL:=oZ hcall;clear hcall hf hp h hR
  go_enter func135,ntmps135
  go_wp2_with (go_at_call 230;refine HCALL.mono ?_;rintro e w' ⟨rfl,sX⟩);go_ret;rw [HRR.out];exact ⟨rfl,by assumption⟩
 | some i =>
  have HRR:Hid (xs.any p=true):=by
   unfold Hid;rw [List.any_eq_true];obtain ⟨hi,yj,_⟩:=List.findIdx?_eq_some_iff_getElem.1 hf;exact ⟨_,List.getElem_mem hi,yj⟩
  have D0:(0:Int)<=(i:Int):=by omega
  unfold lO at hcall;rw [hf] at hcall;have HCALL:=oZ hcall;clear hcall hf hp h hR
  go_enter func135,ntmps135
  go_wp2_with (go_at_call 230;refine HCALL.mono ?_;rintro e w' ⟨rfl,sX⟩);go_ret;rw [HRR.out];exact ⟨rfl,by assumption⟩
def iK (r:pN):Int:=gd (· != 0) r
def jg (xs:pM) (i:Nat):Int:=if i=0 then -1 else iK (xs.getD (i-1) [])
def iY (p:Nat) (r x:pN):Bool:=decide (x.getD p 0<0) || decide (r.getD p 0<=x.getD p 0)
def jR (xs:pM) (i:Nat):Bool :=
 decide (jg xs i<iK (xs.getD i [])) && decide (0<=(xs.getD i []).getD (iK (xs.getD i [])).toNat 0) && !(xs.take i).any (iY (iK (xs.getD i [])).toNat (xs.getD i []))
def fv (xs:pM):Bool:=(List.range xs.length).all (jR xs)
theorem Z68 (r:pN):iK r<r.length:=by
 unfold iK gd;cases h:r.findIdx? (· != 0) with
 | none=>show (-1:Int)<_;omega
 | some i=>obtain ⟨hi,-⟩:=List.findIdx?_eq_some_iff_getElem.1 h;show (i:Int)<_;omega
theorem Z2y (r:pN):-1<=iK r:=by
 unfold iK gd;cases h:r.findIdx? (· != 0) with
 | none=>show (-1:Int)<=-1;omega
 | some i=>show (-1:Int)<=i;omega
theorem aN.take1 {α:Type} {k:Nat} {R:World->List Value->α->Prop} {w:World} {b off c:Nat} {xs:List α} (h:aN k R w (.slice (some ⟨b,off,none⟩) xs.length c) xs) (j:Nat) (hj:j<=xs.length):aN k R w (.slice (some ⟨b,off,none⟩) j c) (xs.take j):=by
 obtain ⟨us,h1,h2,⟨a,cap,hv,h3,h4,h5,h6⟩,h7⟩:=h;simp only [Value.slice.injEq,true_and] at hv;obtain ⟨rfl,rfl⟩:=hv;have hlen:(xs.take j).length=j:=by rw [om];omega
 refine ⟨us.take j,by rw [om,om];omega,fun u hu=>h2 u (List.mem_of_mem_take hu),?_,fun i u x hu hx=>?_⟩
 ·rw [hlen];refine ⟨_,_,rfl,by omega,h4,h5,fun hne=>?_⟩;have yv:us.flatten=(us.take j).flatten++(us.drop j).flatten:=by rw [<- List.flatten_append,List.take_append_drop]
  obtain ⟨b',off',ha,hb,hc⟩:=h6 (by rw [yv];intro e;exact hne (List.append_eq_nil_iff.1 e).1);refine ⟨b',off',ha,hb,fun i u hu=>hc i u ?_⟩;rw [yv,o6 (od.1 hu).1];exact hu
 ·rw [List.getElem?_take] at hu hx
  split at hu
  ·rw [if_pos (by assumption)] at hx;exact h7 i u x hu hx
  ·cases hu
theorem Z0t (xs:pM) (i:Nat):-1<=jg xs i:=by
 unfold jg;split;·omega
 ·exact Z2y _
theorem E6_ (f:Nat->Bool) (j:Nat):(List.range (j+1)).all f=((List.range j).all f && f j):=by
 rw [List.range_succ,List.all_append];simp
theorem Z4F {xs:pM} {j:Nat} (hj:j<xs.length) (h:jR xs j=false):fv xs=false:=by
 unfold fv;rw [List.all_eq_false];exact ⟨j,List.mem_range.2 hj,by simp [h]⟩
theorem h5_ (x r:pN) (p gp gr:Nat) (vx vr:Value) (w:World) (hx:aM w vx x) (hr:aM w vr r) (cp:w.cell? ⟨gp,0,none⟩=some (.int .i64 p)) (cr:w.cell? ⟨gr,0,none⟩=some vr) (E1:p<x.length) (tJ:p<r.length) :
  pI 309 #[vx,.pointer (some ⟨gp,0,none⟩),.pointer (some ⟨gr,0,none⟩)] w (.bool (iY p r x)):=by
 obtain ⟨ax,cx,rfl,x1,x2,-,xb,xc⟩:=hx.open;obtain ⟨ar,cr',rfl,r1,r2,-,rb,rc⟩:=hr.open;obtain ⟨bx,ox,rfl,-,xcell⟩:=xc (by intro e;simp [e] at E1);obtain ⟨br,or,rfl,-,rcell⟩:=rc (by intro e;simp [e] at tJ);obtain ⟨a,ha⟩:∃ a,x[p]?=some a:=⟨_,oc E1⟩;obtain ⟨b,hb⟩:∃ b,r[p]?=some b:=⟨_,oc tJ⟩;have ga:=xcell p a ha;have gb:=rcell p b hb;have HV:Hid (iY p r x=(decide (a<0) || decide (b<=a))):=by
  unfold Hid iY;rw [oe,oe,ha,hb];rfl
 rw [HV.out];unfold maxLen at x2 r2;clear ha hb xb rb xc rc xcell rcell hx hr HV;by_cases h1:a<0
 ·have d1:decide (a<0)=true:=pE h1
  go_enter func309,ntmps309
  go_wp2_with fail
  go_quiet (fail)
  go_wp2_with fail;go_ret;exact ⟨by simp [h1],aA.drewN _ _⟩
 ·have d1:decide (a<0)=false:=pD h1;by_cases h2:b<=a
  ·have d2:decide (b<=a)=true:=pE h2
   go_enter func309,ntmps309
   go_wp2_with fail
   go_quiet (fail)
   go_wp2_with fail;go_ret;exact ⟨by simp [h1,h2],aA.drewN _ _⟩
  ·have d2:decide (b<=a)=false:=pD h2
   go_enter func309,ntmps309
   go_wp2_with fail
   go_quiet (fail)
   go_wp2_with fail;go_ret;exact ⟨by simp [h1,h2],aA.drewN _ _⟩
theorem Z0T (xss:pM) (v:Value) (n:Nat) (w:World) (h:aw w v xss) (hn:∀ r∈xss,r.length=n) :
  pI 244 #[v] w (.bool (fv xss)):=by
 have HX:=oZ h;have HN:=oZ hn;obtain ⟨a,c,rfl,h1,h2,-,hc⟩:=ae.open h;have HC:=oZ hc;unfold maxLen at h2;clear h hc hn
 go_enter func244,ntmps244
 go_wp2_with fail
 go_loopw [9,3] (fun t b wr=>∃ j:Nat,j<=xss.length/\t=.int .i64 j/\b=.int .i64 (jg xss j)/\aA w wr/\Hid ((List.range j).all (jR xss)=true)) (fun t _ _=>xss.length-(intOf t).toNat)
 case atStart=>exact ⟨0,by omega,rfl,rfl,aA.refl _,rfl⟩
 case round =>
  obtain ⟨j,hj,rfl,rfl,hE,HA⟩:=hrel;obtain ⟨wo,rfl⟩:∃ wo:World,wo=wr:=⟨_,rfl⟩;have HE:=oZ hE;by_cases hlt:j<xss.length
  ·obtain ⟨r,hr⟩:∃ r,xss[j]?=some r:=⟨_,oc hlt⟩;obtain ⟨b,off,rfl,hb,pP⟩:=HC (by intro e;simp [e] at hlt);obtain ⟨vr,tH,sW⟩:=pP j r hr;obtain ⟨ar,cr,rfl,r1,r2,-,rb,rc⟩:=tH.open;unfold maxLen at r2;have g1:=hE.cell sW;have HR:=oZ (aM.ext tH hE);have HRn:=oZ (HN r (og hr));have HP:=oZ (fun W (hW:aA wo W)=>v3_ r _ W (aM.ext HR hW));have HG:Hid (xss.getD j []=r):=(by unfold Hid;rw [oe,hr];rfl);obtain ⟨p,hp⟩:∃ p:Int,gd (· != 0) r=p:=⟨_,rfl⟩;obtain ⟨q,hq⟩:∃ q:Int,jg xss j=q:=⟨_,rfl⟩;rw [hp] at HP;have Kx:p<r.length:=(by rw [<- hp];exact Z68 r);have Ky:-1<=p:=(by rw [<- hp];exact Z2y r);have HOK:Hid (jR xss j=(decide (q<p) && decide (0<=r.getD p.toNat 0) && !(xss.take j).any (iY p.toNat r))):=by
    unfold Hid jR iK;rw [HG.out,hp,hq]
   have HQ2:Hid (jg xss (j+1)=p):=by
    unfold Hid jg;rw [if_neg (by omega),Nat.add_sub_cancel,HG.out];exact hp
   rw [hq];have HTK:Hid (∀ W,aA wo W->aw W (.slice (some ⟨b,off,none⟩) j c) (xss.take j)):=fun W hW=>aN.take1 (aw.ext HX (aA.trans hE hW)) j hj;have HPL:Hid (∀ x∈xss.take j,x.length=n):=fun x hx=>HN x (List.mem_of_mem_take hx);have vL:-1<=q:=by rw [<- hq];exact Z0t _ _
   have HHB:=oZ (Z4F (xs:=xss) hlt);have HSU:Hid (jR xss j=true->(List.range (j+1)).all (jR xss)=true):=fun h=>by rw [E6_,HA.out,h];rfl
   have RC:=oZ rc;clear hr pP tH sW hp hq hE HX rb rc;go_wp2_with fail;refine (HP _ (aA.alloc _ _)).mono ?_;rintro e w5 ⟨rfl,pV⟩;have HE5:=oZ pV;have k0:=pV.cell (a:=⟨wo.heap.size,0,none⟩) (by rw [World.cell?_alloc_new];rfl);clear pV HP;have e1:aA wo (w5.alloc (.cells #[.int .i64 p] 3)):=aA.trans (aA.alloc _ _) (aA.trans HE5 (aA.alloc _ _));have HE6:=oZ e1;have k1:=(aA.alloc w5 (.cells #[.int .i64 p] 3)).cell k0;have k2:(w5.alloc (.cells #[.int .i64 p] 3)).cell? ⟨w5.heap.size,0,none⟩=some (.int .i64 p):=(by rw [World.cell?_alloc_new];rfl);clear e1;by_cases yS:p<=q
   ·have HF:Hid (fv xss=false):=HHB (by rw [HOK.out,pD (by omega)];rfl);go_wp2_with fail;go_ret;rw [HF.out];exact ⟨rfl,aA.trans HE HE6⟩
   ·obtain ⟨k,rfl⟩:∃ k:Nat,p=k:=⟨p.toNat,by omega⟩;have hkl:k<r.length:=(by omega);obtain ⟨y,hy⟩:∃ y,r[k]?=some y:=⟨_,oc hkl⟩;obtain ⟨br,obr,rfl,-,rcell⟩:=RC.out (by intro e;simp [e] at hkl);have k3:=HE6.cell (HE.cell (rcell k y hy));have HGD:Hid (r.getD ((k:Int).toNat) 0=y):=(by unfold Hid;rw [Int.toNat_natCast,oe,hy];rfl);clear rcell;by_cases qW:y<0
    ·have HF:Hid (fv xss=false):=HHB (by rw [HOK.out,HGD.out,pD (show ¬ 0<=y by omega),Bool.and_false];rfl);clear hy;go_wp2_with fail;go_ret;rw [HF.out];exact ⟨rfl,aA.trans HE HE6⟩
    ·have HPR:Hid (j6_ aM 309 #[.pointer (some ⟨w5.heap.size,0,none⟩),.pointer (some ⟨wo.heap.size,0,none⟩)] (iY k r) (w5.alloc (.cells #[.int .i64 k] 3)) (xss.take j)):=by
      intro W x vx hx hW qc;exact h5_ x r k w5.heap.size wo.heap.size vx _ W qc (aM.ext HR (aA.trans HE6 hW)) (hW.cell k2) (hW.cell k1) (by rw [HPL.out x hx,<- HRn.out];exact hkl) hkl
     have HCT:=oZ (J8_ (R:=aM) (fun _ _ _ _ he h=>aM.ext h he) (xss.take j) _ 309 _ (iY k r) (w5.alloc (.cells #[.int .i64 k] 3)) (HTK _ HE6) (enters_of func309 (by kernel_rfl) rfl) HPR);have HOK2:Hid (jR xss j=!(xss.take j).any (iY k r)):=by
      unfold Hid;rw [HOK.out,HGD.out,pE (show 0<=y by omega),pE (show q<(k:Int) by omega),Int.toNat_natCast];rfl
     obtain ⟨bb,hbb⟩:∃ bb:Bool,(xss.take j).any (iY k r)=bb:=⟨_,rfl⟩;rw [hbb] at HCT HOK2;clear hy hbb HPR;cases bb with
     | true =>
      have HF:Hid (fv xss=false):=HHB (by rw [HOK2.out];rfl);go_wp2_with fail;refine q_ HCT (aA.trans HE6) ?_;intro w7 HE7;clear HCT;go_wp2_with fail;go_ret;rw [HF.out];exact ⟨rfl,aA.trans HE HE7⟩
     | false =>
      have HNX:Hid ((List.range (j+1)).all (jR xss)=true):=HSU (by rw [HOK2.out];rfl);go_wp2_with fail;refine HCT.mono ?_;rintro e w7 ⟨rfl,qw⟩;have HE7:=oZ (aA.trans HE6 qw);have k4:=qw.cell k2;clear qw HCT;go_wp2_with fail;go_roundw
      case rel=>exact ⟨j+1,by omega,by go_num,by rw [HQ2.out],aA.trans HE HE7,HNX⟩
      case measure=>simp [intOf];omega
  ·have HT:Hid (fv xss=true):=by
    have:j=xss.length:=(by omega);rw [this] at HA;exact HA
   go_wp2_with fail;go_ret;rw [HT.out];exact ⟨rfl,HE⟩
def gi (x:pN):Nat:=(ck x).toNat
def mh (s x:pN):Int:=aL (s.getD (gi x) 0) (x.getD (gi x) 0)
def fY (xss:pM) (r:pN):Nat->Option (pN×pN)
 | 0=>some (r,[])
 | i+1=>match fY xss r i with
  | none=>none
  | some (s,m) =>
   if 0<=ck (aD xss i)/\gi (aD xss i)<s.length/\s.all bU=true/\(aD xss i).all bU=true then
    match eS (mh s (aD xss i)) s (aD xss i) with
    | none=>none
    | some s'=>some (s',m++[mh s (aD xss i)])
   else none
theorem G5_ {xss:pM} {r:pN} {i:Nat} {y:pN×pN} (h:fY xss r (i+1)=some y) :
  ∃ s m,fY xss r i=some (s,m)/\0<=ck (aD xss i)/\gi (aD xss i)<s.length/\s.all bU=true/\(aD xss i).all bU=true/\eS (mh s (aD xss i)) s (aD xss i)=some y.1/\y.2=m++[mh s (aD xss i)]:=by
 unfold fY at h;cases hr:fY xss r i with
 | none=>rw [hr] at h;cases h
 | some p =>
  obtain ⟨s,m⟩:=p;rw [hr] at h;simp only at h;by_cases hc:0<=ck (aD xss i)/\gi (aD xss i)<s.length/\s.all bU=true/\(aD xss i).all bU=true
  ·rw [if_pos hc] at h;cases hl:eS (mh s (aD xss i)) s (aD xss i) with
   | none=>rw [hl] at h;cases h
   | some s' =>
    rw [hl] at h;obtain rfl:=o5 h;exact ⟨s,m,rfl,hc.1,hc.2.1,hc.2.2.1,hc.2.2.2,hl,rfl⟩
  ·rw [if_neg hc] at h;cases h
theorem Z3v {xss:pM} {r:pN} {n:Nat}:∀ {y},fY xss r n=some y->∀ i,i<=n->∃ z,fY xss r i=some z:=by
 induction n with
 | zero =>
  intro y h i hi;obtain rfl:i=0:=by omega
  exact ⟨_,h⟩
 | succ n ih =>
  intro y h i hi;by_cases hn:i=n+1;·subst hn;exact ⟨_,h⟩
  ·obtain ⟨s,m,hs,-⟩:=G5_ h;exact ih hs i (by omega)
theorem K2_ {xss:pM} {r:pN}:∀ {i:Nat} {s m:pN},fY xss r i=some (s,m)->s.length=r.length/\m.length=i
 | 0,s,m,h=>by unfold fY at h;simp only [Option.some.injEq,Prod.mk.injEq] at h;obtain ⟨rfl,rfl⟩:=h;exact ⟨rfl,rfl⟩
 | i+1,s,m,h=>by
  obtain ⟨s0,m0,h0,-,-,-,-,hl,hm⟩:=G5_ h;obtain ⟨h1,h2⟩:=K2_ h0;have:=lT hl;simp only at this hm;subst hm;exact ⟨this.trans h1,by simp [h2]⟩
theorem v8_ (x:pN) (h:0<=ck x):gi x<x.length/\ck x=(gi x:Int)/\x.getD (gi x) 0≠0:=by
 unfold gi;unfold ck at h |-;cases hf:x.findIdx? (· != 0) with
 | none=>rw [hf] at h;simp at h
 | some i =>
  obtain ⟨hi,hp,-⟩:=List.findIdx?_eq_some_iff_getElem.1 hf;refine ⟨by simpa using hi,by simp,?_⟩;simp only [Int.toNat_natCast];rw [oe,oc hi];simpa using hp
theorem Z4w {r:pN} {p:Nat} (hz:∀ c,c<p->r.getD c 0=0) (hp:r.getD p 0≠0):r.findIdx? (· != 0)=some p:=by
 have hl:p<r.length:=by
  rcases Nat.lt_or_ge p r.length with h | h;·exact h
  ·exact absurd (by rw [oe,o4 h];rfl) hp
 rw [List.findIdx?_eq_some_iff_getElem];refine ⟨hl,?_,fun j hj=>?_⟩
 ·rw [oe,oc hl] at hp;simpa using hp
 ·have:=hz j hj;rw [oe,oc (by omega)] at this;simpa using this
theorem H0_ {n:Nat} {R:pM} {ps:Nat->Nat} (hR:a_ n R ps) {i:Nat} (hi:i<R.length):(aD R i).findIdx? (· != 0)=some (ps i) :=
 Z4w (fun c hc=>hR.2.zero i hi c hc) (Int.ne_of_gt (hR.2.pos i hi))
theorem o2_ {n:Nat} {R:pM} {ps:Nat->Nat} (hR:a_ n R ps) {i:Nat} (hi:i<R.length):iK (aD R i)=(ps i:Int):=by
 unfold iK gd;rw [H0_ hR hi]
theorem B3_ {n:Nat} {R:pM} {ps:Nat->Nat} (hR:a_ n R ps) {i:Nat} (hi:i<R.length):ck (aD R i)=(ps i:Int):=by
 unfold ck;rw [H0_ hR hi]
theorem B2_ {n:Nat} {R:pM} {ps:Nat->Nat} (hR:a_ n R ps):fv R=true:=by
 unfold fv;rw [List.all_eq_true];intro i hi;rw [List.mem_range] at hi;have e:R.getD i []=aD R i:=rfl;have e1:=o2_ hR hi;unfold jR;rw [e,e1];have hb:jg R i<(ps i:Int):=by
  unfold jg
  split
  ·omega
  ·rename_i h0;have e2:iK (R.getD (i-1) [])=(ps (i-1):Int):=o2_ hR (i:=i-1) (by omega);rw [e2];have:=hR.2.mono (i-1) i (by omega) hi;omega
 have hp:0<=(aD R i).getD ((ps i:Int)).toNat 0:=Int.le_of_lt (hR.2.pos i hi);have hn:(R.take i).any (iY ((ps i:Int)).toNat (aD R i))=false:=by
  rw [List.any_eq_false];intro x hx;obtain ⟨j,hj⟩:=List.getElem?_of_mem hx;have hjl:=(od.1 hj).1;rw [om] at hjl;have IF:aD R j=x:=by rw [<- j0 (d:=i) (by omega)];exact eO hj
  have hr:=hR.2.red j i (by omega) hi;unfold iY;rw [<- IF];have h1:¬ (aD R j).getD ((ps i:Int)).toNat 0<0:=Int.not_lt.2 hr.1;have h2:¬ (aD R i).getD ((ps i:Int)).toNat 0<=(aD R j).getD ((ps i:Int)).toNat 0:=Int.not_le.2 hr.2;rw [pD h1,pD h2];simp
 rw [pE hb,pE hp,hn];rfl
theorem L3_ {r s:pN} (hl:r.length=s.length) (h:∀ c,r.getD c 0=s.getD c 0):r=s:=by
 apply List.ext_getElem hl;intro i h1 h2;have e:=h i;rw [oe,oe,oc h1,oc h2] at e;simpa using e
def sk (i a:Nat):Nat:=if a<i then a else a+1
def aI:Nat->(Nat->Rat)->Rat
 | 0,_=>0
 | n+1,f=>aI n f+f n
def da (i:Nat):Rat:=if i%2=0 then 1 else -1
def aK:Nat->(Nat->Nat->Rat)->Rat
 | 0,_=>1
 | n+1,M=>aI (n+1) fun i=>da i*M i 0*aK n fun a b=>M (sk i a) (b+1)
theorem cw {n:Nat} {f g:Nat->Rat} (h:∀ i,i<n->f i=g i):aI n f=aI n g:=by
 induction n with
 | zero=>rfl
 | succ n ih=>show aI n f+f n=aI n g+g n;rw [ih (fun i hi=>h i (by omega)),h n (by omega)]
theorem S5_ (n:Nat):aI n (fun _=>0)=0:=by
 induction n with
 | zero=>rfl
 | succ n ih=>show aI n _+0=0;rw [ih];grind
theorem oU (n:Nat) (f g:Nat->Rat):aI n (fun i=>f i+g i)=aI n f+aI n g:=by
 induction n with
 | zero=>show (0:Rat)=0+0;grind
 | succ n ih=>show aI n _+(f n+g n)=(aI n f+f n)+(aI n g+g n);rw [ih];grind
theorem iv (n:Nat) (c:Rat) (f:Nat->Rat):aI n (fun i=>c*f i)=c*aI n f:=by
 induction n with
 | zero=>show (0:Rat)=c*0;grind
 | succ n ih=>show aI n _+c*f n=c*(aI n f+f n);rw [ih];grind
theorem Z5m (n:Nat) (f:Nat->Rat):aI n (fun i=>- f i)=- aI n f:=by
 have:=iv n (-1) f;rw [show (-1:Rat)*aI n f=- aI n f by grind] at this;rw [<- this];exact cw fun i _=>by grind
theorem Z3S (n m:Nat) (f:Nat->Nat->Rat):aI n (fun i=>aI m (fun j=>f i j))=aI m (fun j=>aI n (fun i=>f i j)):=by
 induction n with
 | zero=>show (0:Rat)=aI m (fun _=>0);rw [S5_]
 | succ n ih =>
  show aI n _+aI m (fun j=>f n j)=aI m (fun j=>aI n (fun i=>f i j)+f n j);rw [ih,oU]
theorem k4_ (n:Nat) (f:Nat->Rat):aI (n+1) f=f 0+aI n (fun i=>f (i+1)):=by
 induction n with
 | zero=>show (0:Rat)+f 0=f 0+0;grind
 | succ n ih =>
  show aI (n+1) f+f (n+1)=f 0+(aI n (fun i=>f (i+1))+f (n+1));rw [ih];grind
theorem oV {n k:Nat} {f:Nat->Rat} (hk:k<n) (h:∀ i,i<n->i≠k->f i=0):aI n f=f k:=by
 induction n with
 | zero=>omega
 | succ n ih =>
  show aI n f+f n=f k;by_cases e:k=n
  ·subst e;have:aI k f=aI k (fun _=>0):=cw fun i hi=>h i (by omega) (by omega);rw [this,S5_];grind
  ·rw [ih (by omega) (fun i hi hn=>h i (by omega) hn),h n (by omega) (by omega)];grind
def bE (r i:Nat):Nat:=if i=r then r+1 else if i=r+1 then r else i
theorem Z6G {n r:Nat} (hr:r+1<n) (f:Nat->Rat):aI n (fun i=>f (bE r i))=aI n f:=by
 induction n with
 | zero=>omega
 | succ n ih =>
  show aI n _+f (bE r n)=aI n f+f n;by_cases e:r+1=n
  ·subst e;show (aI r _+f (bE r r))+f (bE r (r+1))=(aI r f+f r)+f (r+1);have h1:aI r (fun i=>f (bE r i))=aI r f:=cw fun i hi=>by unfold bE;rw [if_neg (by omega),if_neg (by omega)]
   have h2:bE r r=r+1:=(by unfold bE;rw [if_pos rfl]);have h3:bE r (r+1)=r:=(by unfold bE;rw [if_neg (by omega),if_pos rfl]);rw [h1,h2,h3];grind
  ·have h1:bE r n=n:=(by unfold bE;rw [if_neg (by omega),if_neg (by omega)]);rw [ih (by omega),h1]
theorem S4_ (i:Nat):da (i+1)=- da i:=by
 unfold da;by_cases h:i%2=0;·rw [if_pos h,if_neg (by omega)]
 ·rw [if_neg h,if_pos (by omega)];grind
theorem cZ {n:Nat} {M N:Nat->Nat->Rat} (h:∀ a b,a<n->b<n->M a b=N a b):aK n M=aK n N:=by
 induction n generalizing M N with
 | zero=>rfl
 | succ n ih =>
  show aI (n+1) _=aI (n+1) _;refine cw fun i hi=>?_;rw [h i 0 hi (by omega),ih (M:=fun a b=>M (sk i a) (b+1)) (N:=fun a b=>N (sk i a) (b+1)) (fun a b ha hb=>h _ _ (by unfold sk;split <;> omega) (by omega))]
def cD (M:Nat->Nat->Rat) (r:Nat) (u:Nat->Rat):Nat->Nat->Rat:=fun a b=>if a=r then u b else M a b
theorem j3_ (M:Nat->Nat->Rat) (r:Nat):cD M r (M r)=M:=by
 funext a b;unfold cD;split;·rename_i h;rw [h]
 ·rfl
theorem j4_ (M:Nat->Nat->Rat) (r:Nat) (u:Nat->Rat):(fun a b=>cD M r u (sk r a) (b+1))=fun a b=>M (sk r a) (b+1):=by
 funext a b;unfold cD sk;rw [if_neg (by split <;> omega)]
theorem d6_ {M:Nat->Nat->Rat} {r i:Nat} (u:Nat->Rat) (h:i≠r):(fun a b=>cD M r u (sk i a) (b+1))=cD (fun a b=>M (sk i a) (b+1)) (if r<i then r else r-1) (fun b=>u (b+1)):=by
 funext a b;unfold cD sk;show (if (if a<i then a else a+1)=r then u (b+1) else M (if a<i then a else a+1) (b+1))=if a=(if r<i then r else r-1) then u (b+1) else M (if a<i then a else a+1) (b+1)
 have:((if a<i then a else a+1)=r)=(a=(if r<i then r else r-1)):=by
  apply propext;by_cases h1:r<i <;> by_cases h2:a<i <;> simp only [h1,h2,if_true,if_false] <;> omega
 simp only [this]
theorem ni {n:Nat} (M:Nat->Nat->Rat) {r:Nat} (hr:r<n) (u v:Nat->Rat) (c:Rat) :
  aK n (cD M r fun b=>u b+c*v b)=aK n (cD M r u)+c*aK n (cD M r v):=by
 induction n generalizing M r u v with
 | zero=>omega
 | succ n ih =>
  show aI (n+1) _=aI (n+1) _+c*aI (n+1) _;rw [<- iv,<- oU];refine cw fun i hi=>?_;by_cases e:i=r
  ·subst e;simp only [j4_];have h:∀ u,cD M i u i 0=u 0:=fun u=>by unfold cD;rw [if_pos rfl]
   rw [h,h,h];grind
  ·have h:∀ u,cD M r u i 0=M i 0:=fun u=>by unfold cD;rw [if_neg e]
   rw [h,h,h,d6_ _ e,d6_ _ e,d6_ _ e,ih _ (by split <;> omega)];grind
theorem ng {n:Nat} (M:Nat->Nat->Rat) {r:Nat} (hr:r+1<n):aK n (fun a b=>M (bE r a) b)=- aK n M:=by
 induction n generalizing M r with
 | zero=>omega
 | succ n ih =>
  show aI (n+1) _=- aI (n+1) _;rw [<- Z6G hr,<- Z5m];refine cw fun i hi=>?_;have re:bE r (bE r i)=i:=by unfold bE;repeat' split <;> try omega
  show da (bE r i)*M (bE r (bE r i)) 0*aK n (fun a b=>M (bE r (sk (bE r i) a)) (b+1))=-(da i*M i 0*aK n fun a b=>M (sk i a) (b+1));rw [re];by_cases e1:i=r
  ·subst e1;have h1:bE i i=i+1:=(by unfold bE;rw [if_pos rfl]);rw [h1,S4_];have:(fun a b=>M (bE i (sk (i+1) a)) (b+1))=fun a b=>M (sk i a) (b+1):=by
    funext a b;congr 1;unfold bE sk;repeat' split <;> try omega
   rw [this];grind
  ·by_cases e2:i=r+1
   ·subst e2;have h1:bE r (r+1)=r:=(by unfold bE;rw [if_neg (by omega),if_pos rfl]);rw [h1,S4_];have:(fun a b=>M (bE r (sk r a)) (b+1))=fun a b=>M (sk (r+1) a) (b+1):=by
     funext a b;congr 1;unfold bE sk;repeat' split <;> try omega
    rw [this];grind
   ·have h1:bE r i=i:=(by unfold bE;rw [if_neg e1,if_neg e2]);rw [h1];have:(fun a b=>M (bE r (sk i a)) (b+1))=fun a b=>(fun a b=>M (sk i a) (b+1)) (bE (if r<i then r else r-1) a) b:=by
     funext a b;congr 1;unfold bE sk;repeat' split <;> try omega
    rw [this];have e:=ih (fun a b=>M (sk i a) (b+1)) (r:=if r<i then r else r-1) (by split <;> omega);rw [e];grind
def bG (i j a:Nat):Nat:=if a=i then j else if a=j then i else a
theorem I0_ {n:Nat} (M:Nat->Nat->Rat) {i j:Nat} (qH:i<j) (hj:j<n):aK n (fun a b=>M (bG i j a) b)=- aK n M:=by
 obtain ⟨d,rfl⟩:∃ d,j=i+1+d:=⟨j-i-1,by omega⟩;clear qH
 induction d generalizing M with
 | zero =>
  have:(fun a b=>M (bG i (i+1+0) a) b)=fun a b=>M (bE i a) b:=by
   funext a b;congr 1
  rw [this];exact ng M hj
 | succ d ih =>
  have:(fun a b=>M (bG i (i+1+(d+1)) a) b)=fun a b=>(fun a b=>(fun a b=>M (bE (i+1+d) a) b) (bG i (i+1+d) a) b) (bE (i+1+d) a) b:=by
   funext a b;congr 1;unfold bG bE;repeat' split <;> try omega
  rw [this];have e1:=ng (n:=n) (fun a b=>(fun a b=>M (bE (i+1+d) a) b) (bG i (i+1+d) a) b) (r:=i+1+d) (by omega);have e2:=ih (fun a b=>M (bE (i+1+d) a) b) (by omega);have e3:=ng (n:=n) M (r:=i+1+d) (by omega);rw [e1,e2,e3];grind
theorem l3_ {x:Rat} (h:x=-x):x=0:=by
 have:x+x=0:=by rw [show x+x=x-(-x) by grind,<- h];grind
 have:2*x=0:=by grind
 grind
theorem w5_ {n:Nat} {M:Nat->Nat->Rat} {i j:Nat} (hi:i<n) (hj:j<n) (hne:i≠j) (h:∀ b,b<n->M i b=M j b):aK n M=0:=by
 have key:∀ i j,i<j->j<n->(∀ b,b<n->M i b=M j b)->aK n M=0:=by
  intro i j qH hj h;have h1:=I0_ M qH hj;have h2:aK n (fun a b=>M (bG i j a) b)=aK n M:=cZ fun a b ha hb=>by
   unfold bG
   split
   ·rename_i e;rw [e,h b hb]
   ·split
    ·rename_i e;rw [e,h b hb]
    ·rfl
  rw [h2] at h1;exact l3_ h1
 rcases Nat.lt_or_gt_of_ne hne with e | e;·exact key i j e hj h
 ·exact key j i e hi (fun b hb=>(h b hb).symm)
theorem ia {n:Nat} {M:Nat->Nat->Rat} {r:Nat} (hr:r<n) (h:∀ b,b<n->M r b=0):aK n M=0:=by
 have h1:=ni M hr (fun _=>0) (fun _=>0) (-1);have h2:aK n (cD M r fun _=>0)=aK n M:=cZ fun a b ha hb=>by
  unfold cD;split;·rename_i e;rw [e,h b hb]
  ·rfl
 rw [show (fun b:Nat=>(0:Rat)+-1*0)=fun _=>0 by funext b;grind,h2] at h1;grind
theorem Z0G {n:Nat} (M:Nat->Nat->Rat) {r:Nat} (hr:r<n) (c:Rat):aK n (cD M r fun b=>c*M r b)=c*aK n M:=by
 have h1:=ni M hr (fun _=>0) (M r) c;rw [j3_,ia (M:=cD M r fun _=>0) hr (fun b _=>by unfold cD;rw [if_pos rfl])] at h1;rw [show (fun b=>c*M r b)=fun b=>(0:Rat)+c*M r b by funext b;grind,h1];grind
theorem h0_ {n:Nat} (M:Nat->Nat->Rat) {r s:Nat} (hr:r<n) (hs:s<n) (hne:r≠s) (c:Rat):aK n (cD M r fun b=>M r b+c*M s b)=aK n M:=by
 rw [ni M hr (M r) (M s) c,j3_,w5_ (M:=cD M r (M s)) hr hs hne (fun b _=>by unfold cD;rw [if_pos rfl,if_neg (by omega)])];grind
def mT:Nat->(Nat->Nat->Rat)->Rat
 | 0,_=>1
 | n+1,M=>aI (n+1) fun j=>da j*M 0 j*mT n fun a b=>M (a+1) (sk j b)
theorem Z61 (n:Nat) (M:Nat->Nat->Rat):mT n M=aK n fun a b=>M b a:=by
 induction n generalizing M with
 | zero=>rfl
 | succ n ih =>
  show aI (n+1) _=aI (n+1) _;refine cw fun i hi=>?_;rw [ih]
theorem N9_ (i:Nat):sk (i+1) 0=0:=by unfold sk;rw [if_pos (by omega)]
theorem Z3G (i a:Nat):sk (i+1) (a+1)=sk i a+1:=by
 unfold sk;by_cases h:a<i;·rw [if_pos h,if_pos (by omega)]
 ·rw [if_neg h,if_neg (by omega)]
theorem mS:∀ (n:Nat) (M:Nat->Nat->Rat),aK n M=mT n M/\aK (n+1) M=mT (n+1) M
 | 0,M=>⟨rfl,rfl⟩
 | n+1,M=>by
  refine ⟨(mS n M).2,?_⟩;have h1:aK (n+2) M=da 0*M 0 0*aK (n+1) (fun a b=>M (a+1) (b+1))+aI (n+1) fun i=>aI (n+1) fun j=>da (i+1)*M (i+1) 0*(da j*M 0 (j+1)*aK n (fun a b=>M (sk i a+1) (sk j b+1))):=by
   show aI (n+2) _=_;rw [k4_];congr 1;refine cw fun i hi=>?_;rw [iv];congr 1;rw [(mS n _).2];show aI (n+1) _=aI (n+1) _;refine cw fun j hj=>?_;rw [<- (mS n _).1];simp only [Z3G,N9_]
  have h2:mT (n+2) M=da 0*M 0 0*mT (n+1) (fun a b=>M (a+1) (b+1))+aI (n+1) fun j=>aI (n+1) fun i=>da (j+1)*M 0 (j+1)*(da i*M (i+1) 0*aK n (fun a b=>M (sk i a+1) (sk j b+1))):=by
   show aI (n+2) _=_;rw [k4_];congr 1;refine cw fun j hj=>?_;rw [iv];congr 1;rw [<- (mS n _).2];show aI (n+1) _=aI (n+1) _;refine cw fun i hi=>?_;simp only [Z3G,N9_]
  rw [h1,h2,<- (mS n _).2];congr 1;rw [Z3S];refine cw fun j hj=>cw fun i hi=>?_;rw [S4_,S4_];grind
theorem eh (n:Nat) (M:Nat->Nat->Rat):aK n (fun a b=>M b a)=aK n M:=by
 rw [<- Z61,(mS n M).1]
theorem J9_ {n:Nat} {M:Nat->Nat->Rat} (h:∀ a,a<n->M a n=0):aK (n+1) M=M n n*aK n M:=by
 induction n generalizing M with
 | zero=>show (0:Rat)+da 0*M 0 0*1=M 0 0*1;unfold da;rw [if_pos rfl];grind
 | succ n ih =>
  show aI (n+1) _+da (n+1)*M (n+1) 0*aK (n+1) (fun a b=>M (sk (n+1) a) (b+1))=M (n+1) (n+1)*aI (n+1) _;have h0:aK (n+1) (fun a b=>M (sk (n+1) a) (b+1))=0:=by
   rw [<- eh];refine ia (r:=n) (by omega) fun b hb=>?_;show M (sk (n+1) b) (n+1)=0;exact h _ (by unfold sk;rw [if_pos hb];exact hb)
  rw [h0,<- iv];rw [show ∀ x y:Rat,x+y*0=x by intros;grind];refine cw fun i hi=>?_;rw [ih (M:=fun a b=>M (sk i a) (b+1)) (fun a ha=>h _ (by unfold sk;split <;> omega))];have:sk i n=n+1:=by unfold sk;rw [if_neg (by omega)]
  simp only [this];grind
theorem L1_ (n:Nat):aK n (fun a b=>if a=b then 1 else 0)=1:=by
 induction n with
 | zero=>rfl
 | succ n ih =>
  rw [J9_ (fun a ha=>if_neg (by omega)),ih];simp
theorem Z4m {n:Nat} (M:Nat->Nat->Rat) {r:Nat} (hr:r<n) (u v:Nat->Rat) (c:Rat) :
  aK n (fun a b=>if b=r then u a+c*v a else M a b)=aK n (fun a b=>if b=r then u a else M a b)+c*aK n (fun a b=>if b=r then v a else M a b):=by
 have h:=ni (fun a b=>M b a) hr u v c;rw [<- eh,<- eh n (fun a b=>if b=r then u a else M a b),<- eh n (fun a b=>if b=r then v a else M a b)];exact h
theorem mQ {n:Nat} {M:Nat->Nat->Rat} {i j:Nat} (hi:i<n) (hj:j<n) (hne:i≠j) (h:∀ b,b<n->M b i=M b j):aK n M=0:=by
 rw [<- eh];exact w5_ hi hj hne h
theorem nh {n:Nat} (M:Nat->Nat->Rat) {r:Nat} (hr:r<n) (u:Nat->Rat) (m:Nat) (f:Nat->Rat) (v:Nat->Nat->Rat) :
  aK n (fun a b=>if b=r then u a+aI m (fun l=>f l*v l a) else M a b)=aK n (fun a b=>if b=r then u a else M a b)+aI m (fun l=>f l*aK n (fun a b=>if b=r then v l a else M a b)):=by
 induction m with
 | zero =>
  show aK n (fun a b=>if b=r then u a+0 else M a b)=_+(0:Rat);rw [show (fun a b=>if b=r then u a+0 else M a b)=fun a b=>if b=r then u a else M a b by funext a b;split <;> grind];grind
 | succ m ih =>
  show aK n (fun a b=>if b=r then u a+(aI m (fun l=>f l*v l a)+f m*v m a) else M a b)=_+(aI m _+f m*_);rw [show (fun a b=>if b=r then u a+(aI m (fun l=>f l*v l a)+f m*v m a) else M a b)=fun a b=>if b=r then (u a+aI m (fun l=>f l*v l a))+f m*v m a else M a b by funext a b;split <;> grind];rw [Z4m M hr (fun a=>u a+aI m (fun l=>f l*v l a)) (v m) (f m),ih];grind
def fc (V:Nat->List Int) (r:Nat) (x:pN):Nat->List Int:=fun a=>if a=r then x else V a
theorem Z43 (V:Nat->List Int) (r:Nat):fc V r (V r)=V:=by
 funext a;unfold fc;split;·rename_i h;rw [h]
 ·rfl
structure j7 (n k:Nat) (G:(Nat->List Int)->Rat):Prop where
 lin:∀ V r x y (q:Int),r<k->x.length=y.length->G (fc V r (aU q x y))=G (fc V r x)+(-(q:Rat))*G (fc V r y)
 zero:∀ V r,r<k->G (fc V r (List.replicate n 0))=0
 eq:∀ V i j,i<k->j<k->i≠j->V i=V j->G V=0
 swap:∀ V i j,i<j->j<k->G (fun a=>V (bG i j a))=- G V
 ext:∀ V W,(∀ a,a<k->V a=W a)->G V=G W
def bW (S:Nat->Nat) (V:Nat->List Int):Nat->Nat->Rat:=fun a b=>(((V a).getD (S b) 0:Int):Rat)
def al (k:Nat) (S:Nat->Nat) (V:Nat->List Int):Rat:=aK k (bW S V)
theorem u3_ (S:Nat->Nat) (V:Nat->List Int) (r:Nat) (x:pN):bW S (fc V r x)=cD (bW S V) r fun b=>((x.getD (S b) 0:Int):Rat):=by
 funext a b;unfold bW fc cD;split <;> rfl
theorem jS (n k:Nat) (S:Nat->Nat):j7 n k (al k S) where
 lin V r x y q hr hl:=by
  unfold al;rw [u3_,u3_,u3_,<- ni _ hr];congr 1;funext a b;unfold cD;split
  ·simp only;rw [en q hl.symm];rw [Rat.intCast_sub,Rat.intCast_mul];grind
  ·rfl
 zero V r hr:=by
  unfold al;refine ia hr fun b _=>?_;rw [u3_];unfold cD;rw [if_pos rfl];simp only;have:(List.replicate n (0:Int)).getD (S b) 0=0:=(Sp.zero (n:=n) (S:=fun _=>False)).zeroCol (fun _ h=>h.elim) (fun _ h=>h.elim);rw [this];rfl
 eq V i j hi hj hne h:=by
  unfold al;exact w5_ hi hj hne fun b _=>by unfold bW;rw [h]
 swap V i j qH hj:=I0_ (bW S V) qH hj
 ext V W h:=cZ fun a b ha _=>by unfold bW;rw [h a ha]
theorem Z4l {n k:Nat} {G H:(Nat->List Int)->Rat} (hG:j7 n k G) (hH:j7 n k H) (c d:Rat):j7 n k (fun V=>c*G V-d*H V) where
 lin V r x y q hr hl:=by rw [hG.lin V r x y q hr hl,hH.lin V r x y q hr hl];grind
 zero V r hr:=by rw [hG.zero V r hr,hH.zero V r hr];grind
 eq V i j hi hj hne h:=by rw [hG.eq V i j hi hj hne h,hH.eq V i j hi hj hne h];grind
 swap V i j qH hj:=by rw [hG.swap V i j qH hj,hH.swap V i j qH hj];grind
 ext V W h:=by rw [hG.ext V W h,hH.ext V W h]
structure iB (Q:Rat->Prop):Prop where
 zero:Q 0
 add:∀ x y (q:Int),Q x->Q y->Q (x+(-(q:Rat))*y)
theorem iB.neg {Q:Rat->Prop} (h:iB Q) {x:Rat} (hx:Q x):Q (-x):=by
 have:=h.add 0 x 1 h.zero hx;have e:(0:Rat)+-((1:Int):Rat)*x=-x:=by grind
 rw [e] at this;exact this
theorem Z5Q {n k:Nat} {G:(Nat->List Int)->Rat} {Q:Rat->Prop} (hG:j7 n k G) (hQ:iB Q) {T:pN->Prop} (hT:kt n T) (V:Nat->List Int) {r:Nat} (hr:r<k) (h:∀ x,T x->Q (G (fc V r x))) {v:pN} (hv:Sp n T v):Q (G (fc V r v)):=by
 induction hv with
 | zero=>rw [hG.zero V r hr];exact hQ.zero
 | mem hx=>exact h _ hx
 | less q a b iha ihb=>rw [hG.lin V r _ _ q hr (by rw [a.len hT,b.len hT])];exact hQ.add _ _ q iha ihb
theorem x4_ {n k:Nat} {G:(Nat->List Int)->Rat} {Q:Rat->Prop} (hG:j7 n k G) (hQ:iB Q) {T:pN->Prop} (hT:kt n T) (h:∀ V,(∀ a,a<k->T (V a))->Q (G V)) :
  ∀ j,j<=k->∀ V,(∀ a,a<j->Sp n T (V a))->(∀ a,j<=a->a<k->T (V a))->Q (G V)
 | 0,_,V,_,h2=>h V fun a ha=>h2 a (Nat.zero_le _) ha
 | j+1,hj,V,h1,h2=>by
  rw [<- Z43 V j];refine Z5Q hG hQ hT V (by omega) (fun x hx=>?_) (h1 j (by omega));refine x4_ hG hQ hT h j (by omega) (fc V j x) (fun a ha=>?_) fun a ha wZ=>?_;·unfold fc;rw [if_neg (by omega)];exact h1 a (by omega)
  ·unfold fc;split;·exact hx
   ·exact h2 a (by omega) wZ
theorem Z3j:∀ (k:Nat) (f:Nat->Nat),(∀ a,a<=k->f a<k)->∃ a b,a<b/\b<=k/\f a=f b
 | 0,f,h=>by have:=h 0 (oz _);omega
 | k+1,f,h=>by
  by_cases hex:∃ a,a<=k/\f a=f (k+1)
  ·obtain ⟨a,h1,h2⟩:=hex;exact ⟨a,k+1,by omega,oz _,h2⟩
  ·have hne:∀ a,a<=k->f a≠f (k+1):=fun a ha he=>hex ⟨a,ha,he⟩;have hv:=h (k+1) (oz _)
   obtain ⟨a,b,h1,h2,h3⟩:=Z3j k (fun a=>if f a=k then f (k+1) else f a) (fun a ha=>by
    have h1:=h a (by omega);have h2:=hne a ha
    split <;> omega)
   refine ⟨a,b,h1,by omega,?_⟩;have ha:=hne a (by omega);have hb:=hne b h2
   split at h3 <;> split at h3 <;> omega
theorem x5_ {n k:Nat} {G:(Nat->List Int)->Rat} {Q:Rat->Prop} (hG:j7 n k G) (hQ:iB Q) (R:Nat->List Int) (h:Q (G R)) :
  ∀ (j r:Nat),k-r=j->r<=k->∀ f:Nat->Nat,(∀ a,a<k->f a<k)->(∀ a,a<r->f a=a)->Q (G fun a=>R (f a))
 | 0,r,hj,hr,f,h1,h2=>by
  rw [hG.ext _ R fun a ha=>by rw [h2 a (by omega)]];exact h
 | j+1,r,hj,hr,f,h1,h2=>by
  by_cases hex:∃ a,r<=a/\a<k/\f a=r
  ·obtain ⟨a,a1,a2,a3⟩:=hex;by_cases BZ:a=r
   ·exact x5_ hG hQ R h j (r+1) (by omega) (by omega) f h1 fun b hb=>by
     by_cases sH:b=r;·rw [sH,<- BZ,a3,BZ]
     ·exact h2 b (by omega)
   ·have:=x5_ hG hQ R h j (r+1) (by omega) (by omega) (fun b=>f (bG r a b)) (fun b hb=>h1 _ (by unfold bG;split;omega;split <;> omega)) fun b hb=>by
     unfold bG;by_cases sH:b=r;·rw [if_pos sH,a3,sH]
     ·rw [if_neg sH,if_neg (by omega)];exact h2 b (by omega)
    have e:=hG.swap (fun b=>R (f b)) r a (by omega) a2;have e2:(fun b=>R (f (bG r a b)))=fun b=>(fun b=>R (f b)) (bG r a b):=rfl;rw [e2,e] at this;have:=hQ.neg this;rw [Rat.neg_neg] at this;exact this
  ·
   obtain ⟨k',rfl⟩:∃ k',k=k'+1:=⟨k-1,by omega⟩;have hne:∀ a,a<=k'->f a≠r:=fun a ha he=>by
    by_cases BZ:a<r;·rw [h2 a BZ] at he;omega
    ·exact hex ⟨a,by omega,by omega,he⟩
   obtain ⟨a,b,q1,q2,q3⟩:=Z3j k' (fun a=>if f a=k' then r else f a) (fun a ha=>by
    have g1:=h1 a (by omega);have g2:=hne a ha
    split <;> omega)
   have ha:=hne a (by omega);have hb:=hne b q2;have qL:f a=f b:=by
    split at q3 <;> split at q3 <;> omega
   rw [hG.eq (fun a=>R (f a)) a b (by omega) (by omega) (by omega) (by rw [qL])];exact hQ.zero
theorem mI {n:Nat} {G:(Nat->List Int)->Rat} {Q:Rat->Prop} {R:pM} (hG:j7 n R.length G) (hQ:iB Q) (hW:ak n R) (h:Q (G (aD R))) (V:Nat->List Int) (hV:∀ a,a<R.length->Sp n (aG 0 R) (V a)):Q (G V):=by
 refine x4_ hG hQ (cT hW) (fun V hV=>?_) R.length (oz _) V hV fun a h1 h2=>by omega
 have hf:∃ f:Nat->Nat,∀ a,a<R.length->f a<R.length/\aD R (f a)=V a:=by
  refine ⟨fun a=>if h:a<R.length then Classical.choose (hV a h) else 0,fun a ha=>?_⟩;simp only [dif_pos ha];exact (Classical.choose_spec (hV a ha)).2
 obtain ⟨f,hf⟩:=hf;rw [hG.ext V (fun a=>aD R (f a)) fun a ha=>(hf a ha).2.symm];exact x5_ hG hQ (aD R) h _ 0 rfl (Nat.zero_le _) f (fun a ha=>(hf a ha).1) fun a ha=>by omega
def ek (N:Nat):Nat->Nat
 | 0=>1
 | k+1=>(k+1)*(N*ek N k)
theorem s3_ {B:Nat} {f:Nat->Rat}:∀ {n:Nat},(∀ i,i<n->∃ z:Int,f i=(z:Rat)/\z.natAbs<=B)->∃ z:Int,aI n f=(z:Rat)/\z.natAbs<=n*B
 | 0,_=>⟨0,rfl,by omega⟩
 | n+1,h=>by
  obtain ⟨z,h1,h2⟩:=s3_ fun i (hi:i<n)=>h i (by omega);obtain ⟨y,h3,h4⟩:=h n (by omega);refine ⟨z+y,?_,?_⟩
  ·show aI n f+f n=_;rw [h1,h3,Rat.intCast_add]
  ·rw [Nat.add_mul];omega
theorem Z29 {N:Nat}:∀ (k:Nat) (m:Nat->Nat->Int),(∀ a b,a<k->b<k->(m a b).natAbs<=N)->∃ z:Int,aK k (fun a b=>(m a b:Rat))=(z:Rat)/\z.natAbs<=ek N k
 | 0,m,h=>⟨1,rfl,by unfold ek;decide⟩
 | k+1,m,h=>by
  unfold ek;refine s3_ (B:=N*ek N k) fun i hi=>?_;obtain ⟨z,h1,h2⟩:=Z29 k (fun a b=>m (sk i a) (b+1)) fun a b ha hb=>h _ _ (by unfold sk;split <;> omega) (by omega);have hb:(m i 0*z).natAbs<=N*ek N k:=by rw [Int.natAbs_mul];exact Nat.mul_le_mul (h i 0 hi (by omega)) h2
  simp only;rw [h1];unfold da
  split
  ·exact ⟨m i 0*z,by rw [Rat.intCast_mul];grind,hb⟩
  ·exact ⟨-(m i 0*z),by rw [Rat.intCast_neg,Rat.intCast_mul];grind,by rw [Int.natAbs_neg];exact hb⟩
def dY (R:pM) (ps:Nat->Nat):Nat->Int
 | 0=>1
 | j+1=>aC R j (ps j)*dY R ps j
theorem jV {n:Nat} {R:pM} {ps:Nat->Nat} (hR:a_ n R ps):∀ j,j<=R.length->0<dY R ps j/\∀ i,i<j->aC R i (ps i)<=dY R ps j
 | 0,_=>⟨by unfold dY;decide,fun i hi=>by omega⟩
 | j+1,hj=>by
  obtain ⟨h1,h2⟩:=jV hR j (by omega);have hp:=hR.2.pos j (by omega);have e:dY R ps (j+1)=aC R j (ps j)*dY R ps j:=rfl;have a1:1*dY R ps j<=aC R j (ps j)*dY R ps j:=Int.mul_le_mul_of_nonneg_right (by omega) (by omega);have a2:aC R j (ps j)*1<=aC R j (ps j)*dY R ps j:=Int.mul_le_mul_of_nonneg_left (by omega) (by omega);rw [e];refine ⟨by omega,fun i hi=>?_⟩;by_cases qH:i=j;·rw [qH];omega
  ·have:=h2 i (by omega);omega
theorem jT {n:Nat} {R:pM} {ps:Nat->Nat} (hR:a_ n R ps):∀ j,j<=R.length->al j ps (aD R)=(dY R ps j:Rat)
 | 0,_=>rfl
 | j+1,hj=>by
  have ih:=jT hR j (by omega);unfold al at ih |-;rw [<- eh,J9_,eh,ih]
  ·show _=((aC R j (ps j)*dY R ps j:Int):Rat);rw [Rat.intCast_mul];rfl
  ·intro a ha;show (((aD R j).getD (ps a) 0:Int):Rat)=0;have:(aD R j).getD (ps a) 0=0:=hR.2.zero j (by omega) (ps a) (hR.2.mono a j ha (by omega));rw [this];rfl
theorem nT {k:Nat} (M:Nat->Nat->Rat) (hz:∀ a b,b<a->a<k->M a b=0) (hd:∀ a,a<k->M a a≠0) (y:Nat->Rat):∀ j,j<=k->∃ x:Nat->Rat,∀ a,k-j<=a->a<k->y a=aI k fun l=>x l*M a l
 | 0,_=>⟨fun _=>0,fun a h1 h2=>by omega⟩
 | j+1,hj=>by
  obtain ⟨x,hx⟩:=nT M hz hd y j (by omega);obtain ⟨r,hr⟩:=pL (k-(j+1));obtain ⟨q,hq⟩:∃ q,q=(y r-aI k fun l=>if l=r then 0 else x l*M r l) / M r r:=⟨_,rfl⟩;refine ⟨fun l=>if l=r then q else x l,fun a h1 h2=>?_⟩;by_cases BZ:a=r
  ·rw [BZ];have hf:(aI k fun l=>(if l=r then q else x l)*M r l)=aI k fun l=>(if l=r then 0 else x l*M r l)+if l=r then q*M r r else 0:=by
    refine cw fun l _=>?_;by_cases hl:l=r;·rw [if_pos hl,if_pos hl,if_pos hl,hl];grind
    ·rw [if_neg hl,if_neg hl,if_neg hl];grind
   rw [hf,oU,oV (k:=r) (by omega) (fun i _ hi=>if_neg hi),if_pos rfl,hq];have:=hd r (by omega);rw [Rat.div_mul_cancel this];grind
  ·rw [hx a (by omega) h2];refine cw fun l _=>?_;show x l*M a l=(if l=r then q else x l)*M a l;by_cases hl:l=r;·rw [if_pos hl,hl,hz a r (by omega) h2];grind
   ·rw [if_neg hl]
theorem nW:iB fun x=>x=0:=⟨rfl,fun x y q h h'=>by rw [h,h'];grind⟩
theorem Z1X (d:Rat):iB fun x=>∃ t:Int,x=(t:Rat)*d:=⟨⟨0,by grind⟩,fun x y q ⟨t,h⟩ ⟨u,h'⟩=>⟨t-q*u,by rw [h,h',Rat.intCast_sub,Rat.intCast_mul];grind⟩⟩
theorem Z1t {n:Nat} {m R:pM} {ps:Nat->Nat} (hR:a_ n R ps) (hw:ak n m) (hs:bT n (aG 0 m) (aG 0 R)):∃ V:Nat->List Int,(∀ a,a<R.length->aG 0 m (V a))/\al R.length ps V≠0:=by
 refine Classical.byContradiction fun xN=>?_;have hall:∀ V:Nat->List Int,(∀ a,a<R.length->aG 0 m (V a))->al R.length ps V=0:=fun V hV=>Classical.byContradiction fun h=>xN ⟨V,hV,h⟩;have h0:al R.length ps (aD R)=0:=x4_ (Q:=fun x=>x=0) (jS n R.length ps) nW (cT hw) hall R.length (oz _) (aD R) (fun a ha=>hs.2 _ (az (Nat.zero_le _) ha)) fun a h1 h2=>by omega
 rw [jT hR _ (oz _)] at h0;have hp:=(jV hR _ (oz R.length)).1;have:dY R ps R.length=0:=by exact_mod_cast h0
 omega
theorem H7_ {n N:Nat} {m R:pM} {ps:Nat->Nat} (hR:a_ n R ps) (hN:∀ i,i<m.length->aT N (aD m i)) (hs1:∀ r,aG 0 m r->Sp n (aG 0 R) r) (hV:∃ V:Nat->List Int,(∀ a,a<R.length->aG 0 m (V a))/\al R.length ps V≠0) (S:Nat->Nat):∃ z:Int,al R.length S (aD R)=(z:Rat)/\z.natAbs<=ek N R.length:=by
 obtain ⟨V,hV,hne⟩:=hV;have JK:∀ a,a<R.length->Sp n (aG 0 R) (V a):=fun a ha=>hs1 _ (hV a ha);have hP:=jT hR _ (oz R.length);have hp:=(jV hR _ (oz R.length)).1;have Gb:al R.length ps (aD R)≠0:=by
  rw [hP];intro h;have:dY R ps R.length=0:=by exact_mod_cast h
  omega
 obtain ⟨t,ht⟩:=mI (Q:=fun x=>∃ t:Int,x=(t:Rat)*al R.length ps (aD R)) (jS n R.length ps) (Z1X _) hR.1 ⟨1,by grind⟩ V JK;have hc:=mI (Q:=fun x=>x=0) (Z4l (jS n R.length S) (jS n R.length ps) (al R.length ps (aD R)) (al R.length S (aD R))) nW hR.1 (by grind) V JK;rw [ht] at hc;have B9:t≠0:=by
  intro h;rw [h] at ht;exact hne (by rw [ht];grind)
 have rh:al R.length S V=al R.length S (aD R)*(t:Rat):=by
  have h1:al R.length ps (aD R)*(al R.length S V-al R.length S (aD R)*(t:Rat))=0:=by grind
  rcases Rat.mul_eq_zero.1 h1 with h | h;·exact absurd h Gb
  ·grind
 have hB:∀ (V:Nat->List Int) (N:Nat),(∀ a,a<R.length->aT N (V a))->∃ z:Int,al R.length S V=(z:Rat)/\z.natAbs<=ek N R.length:=fun V N h=>Z29 R.length (fun a b=>(V a).getD (S b) 0) fun a b ha _=>(h a ha).getD _;obtain ⟨z',h1,h2⟩:=hB V N fun a ha=>by obtain ⟨i,-,hi,e⟩:=hV a ha;rw [<- e];exact hN i hi
 obtain ⟨M,hM⟩:∃ M,∀ a,a<R.length->aT M (aD R a):=by
  have:∀ k,∃ M,∀ a,a<k->aT M (aD R a):=by
   intro k
   induction k with
   | zero=>exact ⟨0,fun a ha=>by omega⟩
   | succ k ih =>
    obtain ⟨M,hM⟩:=ih;obtain ⟨L,hL⟩:∃ L,aT L (aD R k):=by
     have:∀ r:pN,∃ L,aT L r:=by
      intro r
      induction r with
      | nil=>exact ⟨0,fun x hx=>by cases hx⟩
      | cons x r ih =>
       obtain ⟨L,hL⟩:=ih;refine ⟨L+x.natAbs,fun y hy=>?_⟩;rcases List.mem_cons.1 hy with rfl | hy;·omega
       ·have:=hL y hy;omega
     exact this _
    refine ⟨M+L,fun a ha=>?_⟩;by_cases hk:a=k;·rw [hk];exact hL.mono (by omega)
    ·exact (hM a (by omega)).mono (by omega)
  exact this _
 obtain ⟨z,h3,-⟩:=hB (aD R) M hM;refine ⟨z,h3,?_⟩;rw [h1,h3] at rh;have hz:z'=z*t:=by exact_mod_cast rh
 rw [hz,Int.natAbs_mul] at h2;exact ow (Nat.le_mul_of_pos_right _ (by omega)) h2
theorem T6_ {n N:Nat} {m R:pM} {ps:Nat->Nat} (hR:a_ n R ps) (hN:∀ i,i<m.length->aT N (aD m i)) (hs1:∀ r,aG 0 m r->Sp n (aG 0 R) r) (hV:∃ V:Nat->List Int,(∀ a,a<R.length->aG 0 m (V a))/\al R.length ps V≠0):∀ i,i<R.length->aT (R.length*ek N R.length) (aD R i):=by
 obtain ⟨k,hk⟩:=pL R.length;have hpp:=jV hR _ (oz R.length);have hP:=jT hR _ (oz R.length);rw [<- hk] at hpp hP;have key:∀ i c,i<R.length->(aC R i c).natAbs<=R.length*ek N R.length:=by
  intro i c hi;rw [<- hk] at hi |-
  obtain ⟨x,hx⟩:=nT (k:=k) (bW ps (aD R)) (fun a b qL ha=>by
   have h:aC R a (ps b)=0:=hR.2.zero a (by omega) (ps b) (hR.2.mono b a qL (by omega));show ((aC R a (ps b):Int):Rat)=0
   rw [h];rfl) (fun a ha h=>by
   have h1:((aC R a (ps a):Int):Rat)=0:=h;have h2:aC R a (ps a)=0:=by exact_mod_cast h1
   have:=hR.2.pos a (by omega);omega) (fun a=>((aC R a c:Int):Rat)) k (oz _)
  have sW:∀ r,r<k->al k (fun b=>if b=r then c else ps b) (aD R)=x r*(dY R ps k:Rat):=by
   intro r hr;rw [<- hP];have e1:al k (fun b=>if b=r then c else ps b) (aD R)=aK k (fun a b=>if b=r then (0:Rat)+aI k (fun l=>x l*bW ps (aD R) a l) else bW ps (aD R) a b):=by
    unfold al;refine cZ fun a b ha hb=>?_;by_cases sH:b=r
    ·rw [if_pos sH,<- hx a (by omega) ha];show (((aD R a).getD (if b=r then c else ps b) 0:Int):Rat)=_;rw [if_pos sH];show ((aC R a c:Int):Rat)=_;grind
    ·rw [if_neg sH];show (((aD R a).getD (if b=r then c else ps b) 0:Int):Rat)=_;rw [if_neg sH];rfl
   rw [e1,nh (bW ps (aD R)) hr (fun _=>0) k x (fun l a=>bW ps (aD R) a l)];have e2:aK k (fun a b=>if b=r then (0:Rat) else bW ps (aD R) a b)=0:=by
    rw [<- eh];exact ia (r:=r) hr fun b _=>if_pos rfl
   rw [e2,oV (k:=r) hr fun l hl hne=>?_]
   ·have e3:aK k (fun a b=>if b=r then bW ps (aD R) a r else bW ps (aD R) a b)=al k ps (aD R):=by
     unfold al;refine cZ fun a b _ _=>?_;by_cases sH:b=r;·rw [if_pos sH,sH]
     ·rw [if_neg sH]
    rw [e3];grind
   ·have e4:aK k (fun a b=>if b=r then bW ps (aD R) a l else bW ps (aD R) a b)=0 :=
     mQ hr hl (fun h=>hne h.symm) fun b _=>by rw [if_pos rfl,if_neg hne]
    rw [e4];grind
  have hsum:((dY R ps k:Int):Rat)*((aC R i c:Int):Rat)=aI k fun l=>al k (fun b=>if b=l then c else ps b) (aD R)*bW ps (aD R) i l:=by
   have BL:((aC R i c:Int):Rat)=aI k fun l=>x l*bW ps (aD R) i l:=hx i (by omega) hi;rw [BL,<- iv];refine cw fun l hl=>?_;rw [sW l hl];grind
  obtain ⟨z,hz1,hz2⟩:=s3_ (n:=k) (B:=ek N k*(dY R ps k).natAbs) (f:=fun l=>al k (fun b=>if b=l then c else ps b) (aD R)*bW ps (aD R) i l) fun l hl=>by
   obtain ⟨y,wB,ry⟩:=H7_ hR hN hs1 hV (fun b=>if b=l then c else ps b);rw [<- hk] at wB ry;refine ⟨y*aC R i (ps l),?_,?_⟩;·rw [wB,Rat.intCast_mul];rfl
   ·rw [Int.natAbs_mul];refine Nat.mul_le_mul ry ?_;have h5:=hpp.2 l hl;have h6:=hR.2.pos l (by omega);have h7:(aC R i (ps l)).natAbs<=(aC R l (ps l)).natAbs:=by
     rcases Nat.lt_trichotomy i l with h | h | h;·have:=hR.2.red i l h (by omega);omega
     ·rw [h];exact oz _
     ·rw [hR.2.zero i (by omega) (ps l) (hR.2.mono l i h (by omega))];simp
    omega
  rw [hz1] at hsum;have he:dY R ps k*aC R i c=z:=by exact_mod_cast hsum
  rw [<- he,Int.natAbs_mul,<- Nat.mul_assoc,Nat.mul_comm] at hz2;exact Nat.le_of_mul_le_mul_right hz2 (by omega)
 intro i hi y hy;obtain ⟨c,hc⟩:=List.getElem?_of_mem hy;have:=key i c hi;unfold aC at this;rw [oe,hc] at this;exact this
theorem Q3_ {n N:Nat} {m R:pM} {ps:Nat->Nat} (hR:a_ n R ps) (hw:ak n m) (hN:∀ i,i<m.length->aT N (aD m i)) (hs:bT n (aG 0 m) (aG 0 R)):∀ i,i<R.length->aT (R.length*ek N R.length) (aD R i) :=
 T6_ hR hN hs.1 (Z1t hR hw hs)
def fQ {α:Type} (p:α->α->Bool) (xs ys:List α):Bool:=decide (xs.length=ys.length) && (xs.zip ys).all fun z=>p z.1 z.2
theorem p9_ {α:Type} (p:α->α->Bool) (x y:α) (xs ys:List α):fQ p (x::xs) (y::ys)=(p x y && fQ p xs ys):=by
 simp only [fQ,List.length_cons,List.zip_cons_cons,List.all_cons,Nat.add_right_cancel_iff];cases p x y <;> simp
theorem v0_ {α:Type} [BEq α] [LawfulBEq α]:∀ xs ys:List α,fQ (· == ·) xs ys=(xs == ys)
 | [],[]=>rfl
 | [],y::ys=>by simp [fQ]
 | x::xs,[]=>by simp [fQ]
 | x::xs,y::ys=>by rw [p9_,v0_ xs ys];rfl
theorem X7_ {α:Type} {R:World->Value->α->Prop} (hR:∀ w w' v x,aA w w'->R w v x->R w' v x) (xs ys:List α) (u v:Value) (g:Nat) (lb:Array Value) (p:α->α->Bool) (w:World) (h:aN 1 (ae R) w u xs) (k:aN 1 (ae R) w v ys)
  (eg:∀ args w,(callFunc g args).run prog w=.ok (.enter g args) w) (hp:∀ W x y a b,x∈xs->y∈ys->aA w W->R W a x->R W b y->Calls prog g (#[a,b]++lb) W fun e W'=>e=.returned (.bool (p x y))/\aA W W') :
  pI 168 #[u,v,.func (.func g) #[] lb] w (.bool (fQ p xs ys)):=by
 obtain ⟨a,c,rfl,h1,h2,-,hc⟩:=ae.open h;obtain ⟨a',c',rfl,k1,k2,-,kc⟩:=ae.open k;have HC:=oZ hc;have KC:=oZ kc;have HP:=oZ hp;have HR:=oZ hR;clear hc kc h k hp hR;unfold maxLen at h2 k2;by_cases hl:xs.length=ys.length
 ·have hn:((xs.length:Int) != (ys.length:Int))=false:=by simp [hl]
  have rq:xs.length<=ys.length:=by omega
  have yo:ys.length<=xs.length:=by omega
  have HL:=oZ hl;clear hl
  go_enter func168,ntmps168
  go_wp2
  go_loopw [17] (fun t wr=>∃ j:Nat,j<=xs.length/\t=.int .i64 j/\aA w wr/\Hid (fQ p (xs.drop j) (ys.drop j)=fQ p xs ys)) (fun t _=>xs.length-(intOf t).toNat)
  case atStart=>exact ⟨0,by omega,rfl,aA.refl _,rfl⟩
  case round =>
   obtain ⟨j,hj,rfl,hE,HT⟩:=hrel;obtain ⟨wo,rfl⟩:∃ wo:World,wo=wr:=⟨_,rfl⟩;by_cases hlt:j<xs.length
   ·obtain ⟨b,off,rfl,hb,pP⟩:=HC (by intro e;simp [e] at hlt);obtain ⟨b',off',rfl,ql,pq⟩:=KC.out (by intro e;simp [e] at rq;simp [rq] at hlt);obtain ⟨x,hx⟩:∃ x,xs[j]?=some x:=⟨xs[j],oc hlt⟩;obtain ⟨y,hy⟩:∃ y,ys[j]?=some y:=⟨ys[j]'(by omega),oc _⟩;obtain ⟨vx,qc,ph⟩:=pP j x hx;obtain ⟨vy,BM,sE⟩:=pq j y hy;have g1:=hE.cell ph;have g2:=hE.cell sE;have q1:(j:Int)<(xs.length:Int):=(by omega);have q2:(j:Int)<(ys.length:Int):=(by omega);have hcall:=HP wo x y vx vy (og hx) (og hy) hE (HR _ _ _ _ hE qc) (HR _ _ _ _ hE BM);have hd:fQ p (xs.drop j) (ys.drop j)=(p x y && fQ p (xs.drop (j+1)) (ys.drop (j+1))):=by
     obtain ⟨Iy,rfl⟩:=od.1 hx;obtain ⟨xa,rfl⟩:=od.1 hy;rw [List.drop_eq_getElem_cons Iy,List.drop_eq_getElem_cons xa,p9_]
    cases hq:p x y with
    | true =>
     rw [hq] at hcall hd;rw [Bool.true_and] at hd;have A7:Hid (fQ p (xs.drop (j+1)) (ys.drop (j+1))=fQ p xs ys):=hd.symm.trans HT;have HCALL:=oZ hcall;clear hcall hq hd qc BM hx hy pP pq ph sE;go_wp2_with (go_at_fn g;refine HCALL.mono ?_;rintro e w' ⟨rfl,sX⟩);go_roundw
     case rel=>exact ⟨j+1,by omega,by go_num,hE.trans (by assumption),A7⟩
     case measure=>simp [intOf];omega
    | false =>
     rw [hq] at hcall hd;rw [Bool.false_and] at hd;have HF:Hid (fQ p xs ys=false):=HT.symm.trans hd;have HCALL:=oZ hcall;clear hcall hq hd qc BM hx hy pP pq ph sE;go_wp2_with (go_at_fn g;refine HCALL.mono ?_;rintro e w' ⟨rfl,sX⟩);go_ret;rw [HF.out];exact ⟨rfl,hE.trans (by assumption)⟩
   ·have hge:xs.length<=j:=(by omega);have A0:Hid (fQ p xs ys=true):=by
     unfold Hid;rw [<- HT.out,List.drop_of_length_le (by omega),List.drop_of_length_le (by omega)];rfl
    go_wp2
    go_ret;rw [A0.out];exact ⟨rfl,hE⟩
 ·have hn:((xs.length:Int) != (ys.length:Int))=true:=by simp;omega
  have HF:Hid (fQ p xs ys=false):=by
   unfold Hid fQ;simp [hl]
  clear hl
  go_enter func168,ntmps168
  go_wp2
  go_ret;rw [HF.out];exact ⟨rfl,aA.refl _⟩
theorem N6_ (xs ys:pN) (u v:Value) (w:World) (h:aM w u xs) (k:aM w v ys) :
  pI 45 #[u,v] w (.bool (xs == ys)):=by
 have HE:=oZ (N0_ xs ys u v w h k);clear h k
 go_enter func45,ntmps45
 go_wp2_with fail;refine p_ HE ?_;intro w1 HE1;go_wp2_with fail;go_ret;exact ⟨rfl,HE1⟩
def cM (w:World) (v:Value) (n:Int) (xss:pM):Prop:=∃ u,v=.agg #[.int .i64 n,u]/\aw w u xss
theorem cM.ext {w w':World} {v:Value} {n:Int} {xss:pM} (h:cM w v n xss) (he:aA w w'):cM w' v n xss:=by
 obtain ⟨u,h1,h2⟩:=h;exact ⟨u,h1,h2.ext he⟩
def de (n:Int) (xss:pM):Int:=if dJ n xss=0 then (if fv xss=true then 0 else 7) else dJ n xss
theorem r0_ {n:Int}:∀ {xss:pM},ez n xss=0->∀ r∈xss,lg r/\(r.length:Int)=n
 | [],_,r,h=>by simp at h
 | x::l,h,r,hr=>by
  unfold ez at h;by_cases hx:dM x=0
  ·rw [if_pos hx] at h;by_cases hn:(x.length:Int)=n
   ·rw [if_pos hn] at h;rcases List.mem_cons.1 hr with rfl | hr;·exact ⟨(oK _).1 hx,hn⟩
    ·exact r0_ h r hr
   ·rw [if_neg hn] at h;cases h
  ·rw [if_neg hx] at h;exact absurd h hx
theorem kX {n:Int} {xss:pM} (h:dJ n xss=0):0<=n/\n<=12/\xss.length<=12/\∀ r∈xss,lg r/\(r.length:Int)=n:=by
 unfold dJ at h;by_cases h1:n<0\/12<n;·rw [if_pos h1] at h;cases h
 ·rw [if_neg h1] at h;by_cases h2:12<xss.length;·rw [if_pos h2] at h;cases h
  ·rw [if_neg h2] at h;exact ⟨by omega,by omega,by omega,r0_ h⟩
theorem y8_ {n:Nat} (hn:n<=12):∀ {xss:pM},(∀ r∈xss,lg r/\r.length=n)->iy n xss=0
 | [],_=>rfl
 | x::l,h=>by
  have hx:=h x (by simp);unfold iy;rw [if_neg (by omega),if_pos hx.2];have:¬ (x.any fun y=>!dx y)=true:=by
   have h0:=(oK x).2 hx.1;unfold dM at h0;intro hq;rw [if_neg (by have:=hx.2;omega),if_pos hq] at h0;cases h0
  rw [if_neg this];exact y8_ hn fun r hr=>h r (by simp [hr])
theorem Z1A {n:Int} {xss:pM} (h:dJ n xss=0):cL xss=0:=by
 obtain ⟨h0,h1,h2,h3⟩:=kX h;unfold cL;rw [if_neg (by omega)];cases xss with
 | nil=>rfl
 | cons x l =>
  have hx:=(h3 x (by simp)).2;exact y8_ (n:=x.length) (by omega) fun r hr=>⟨(h3 r hr).1,by have:=(h3 r hr).2;omega⟩
theorem h6_ (xss:pM) (v:Value) (n:Nat) (w:World) (h:aw w v xss) (hE:cL xss=0) (hn:∀ r∈xss,r.length=n) :
  pI 167 #[v] w (.tuple #[.bool (fv xss),.int .i64 0]):=by
 have HT:=oZ (nC xss v w h);rw [hE] at HT;have HF:=oZ (fun W (hW:aA w W)=>Z0T xss v n W (h.ext hW) hn);obtain ⟨a,c,rfl,h1,h2,-,hc⟩:=ae.open h;clear h hE hn hc
 go_enter func167,ntmps167
 go_wp2_with fail;refine p_ HT ?_;intro w1 HE1;clear HT;go_wp2_with fail;refine q_ (HF _ HE1) (aA.trans HE1) ?_;intro w2 HE2;clear HF;go_wp2_with fail;go_ret2;exact ⟨rfl,HE2⟩
theorem oA (n:Int) (xss:pM) (v:Value) (w:World) (h:cM w v n xss) :
  pI 182 #[v] w (.int .i64 (de n xss)):=by
 obtain ⟨u,rfl,hu⟩:=h;have HC:=oZ (fun W (hW:aA w W)=>N2_ xss n u W (hu.ext hW));have HU:=oZ hu;obtain ⟨a,c,rfl,h1,h2,-,hc⟩:=ae.open hu;clear hu hc;have k0:(w.alloc (.cells #[.int .i64 n,.slice a xss.length c] 76)).cell? ⟨w.heap.size,0,none⟩=some (.int .i64 n):=by rw [World.cell?_alloc_new];rfl
 have k1:(w.alloc (.cells #[.int .i64 n,.slice a xss.length c] 76)).cell? ⟨w.heap.size,1,none⟩=some (.slice a xss.length c):=by rw [World.cell?_alloc_new];rfl
 by_cases hl:dJ n xss=0
 ·have HFo:=oZ (fun W (hW:aA w W)=>h6_ xss _ n.toNat W (HU.ext hW) (Z1A hl) (fun r hr=>by have h1:=((kX hl).2.2.2 r hr).2;have h2:=(kX hl).1;omega));have HV:Hid (de n xss=if fv xss=true then 0 else 7):=by unfold Hid de;rw [if_pos hl]
  rw [hl] at HC;obtain ⟨E,hE⟩:=pK (de n xss);rw [hE] at HV |-;clear hl HU hE
  go_enter func182,ntmps182
  go_wp2_with fail;refine (HC _ (aA.alloc _ _)).mono ?_;rintro e w1 ⟨rfl,hE1⟩;have g1:=hE1.cell k1;have HE1:=oZ (aA.trans (aA.alloc _ _) hE1);clear hE1 HC k0 k1;cases hb:fv xss with
  | true =>
   have HV2:Hid (E=0):=(by rw [hb] at HV;exact HV);rw [hb] at HFo;go_wp2_with fail;refine q_ (HFo _ HE1) (aA.trans HE1) ?_;intro w2 HE2;clear HFo hb;go_wp2_with fail;go_ret;exact ⟨by rw [HV2.out];rfl,HE2⟩
  | false =>
   have HV2:Hid (E=7):=(by rw [hb] at HV;exact HV);rw [hb] at HFo;go_wp2_with fail;refine q_ (HFo _ HE1) (aA.trans HE1) ?_;intro w2 HE2;clear HFo hb;go_wp2_with fail;go_ret;exact ⟨by rw [HV2.out];rfl,HE2⟩
 ·have HV:Hid (de n xss=dJ n xss):=by unfold Hid de;rw [if_neg hl]
  rw [HV.out];clear HV HU;obtain ⟨E,hE⟩:=pK (dJ n xss);rw [hE] at HC hl |-;clear hE
  go_enter func182,ntmps182
  go_wp2_with fail;refine q_ (HC _ (aA.alloc _ _)) (aA.trans (aA.alloc _ _)) ?_;intro w1 HE1;clear HC k0 k1;go_wp2_with fail;go_ret;exact ⟨rfl,HE1⟩
theorem o9_ (n k:Int) (xss yss:pM) (v u:Value) (w:World) (h:cM w v n xss) (h':cM w u k yss) :
  pI 183 #[v,u] w (.bool (decide (n=k) && xss == yss)):=by
 obtain ⟨v1,rfl,hv⟩:=h;obtain ⟨u1,rfl,hu⟩:=h';have HEQ:Hid (∀ W,aA w W->pI 168 #[v1,u1,.func (.func 45) #[] #[]] W (.bool (xss == yss))):=fun W hW=>by
  have:=X7_ (R:=aM) (fun _ _ _ _ he h=>aM.ext h he) xss yss v1 u1 45 #[] (· == ·) W (hv.ext hW) (hu.ext hW) (enters_of func45 (by kernel_rfl) rfl) (fun W x y a b _ _ _ ha hb=>N6_ x y a b W ha hb);rw [v0_] at this;exact this
 obtain ⟨a,c,rfl,h1,h2,-,hc⟩:=ae.open hv;obtain ⟨a',c',rfl,k1,k2,-,kc⟩:=ae.open hu;clear hv hu hc kc;by_cases Il:n=k
 ·subst Il;obtain ⟨B,hB⟩:∃ B:Bool,(xss == yss)=B:=⟨_,rfl⟩;rw [hB] at HEQ |-;clear hB;have hd:(decide (n=n))=true:=pE rfl;rw [hd,Bool.true_and];clear hd
  go_enter func183,ntmps183
  go_wp2_with fail;refine q_ (HEQ _ ((aA.alloc _ _).trans (aA.alloc _ _))) (aA.trans ((aA.alloc _ _).trans (aA.alloc _ _))) ?_;intro w1 HE1;clear HEQ;go_wp2_with fail;go_ret;exact ⟨rfl,HE1⟩
 ·have HF:Hid ((decide (n=k) && xss == yss)=false):=by unfold Hid;rw [pD Il];rfl
  rw [HF.out];clear HEQ HF
  go_enter func183,ntmps183
  go_wp2_with fail;go_ret;exact ⟨rfl,(aA.alloc _ _).trans (aA.alloc _ _)⟩
def j3 (n:Int) (xss:pM) (x:pN):Int:=if de n xss=0 then (if dM x=0 then (if (x.length:Int)=n then 0 else 5) else dM x) else de n xss
theorem r9_ (n:Int) (xss:pM) (x:pN) (v vx:Value) (w:World) (h:cM w v n xss) (hx:aM w vx x) :
  pI 219 #[v,vx] w (.int .i64 (j3 n xss x)):=by
 have HC:=oZ (fun W (hW:aA w W)=>oA n xss v W (h.ext hW));have HR:=oZ (fun W (hW:aA w W)=>W8_ x vx W (hx.ext hW));obtain ⟨u,rfl,hu⟩:=h;obtain ⟨a,c,rfl,h1,h2,-,hc⟩:=ae.open hu;obtain ⟨ax,cx,rfl,x1,x2,-,-,xc⟩:=hx.open;clear hu hc hx xc;have HK0:=oZ (dq w #[.int .i64 n,.slice a xss.length c] 76);have q0:=ah HK0 0;simp only [pC,o_,o9] at q0;obtain ⟨E,hE⟩:=pK (de n xss);obtain ⟨F,hF⟩:=pK (dM x);obtain ⟨G,hG⟩:=pK (j3 n xss x);have HV:Hid (G=if E=0 then (if F=0 then (if (x.length:Int)=n then 0 else 5) else F) else E):=by unfold Hid;rw [<- hG,<- hE,<- hF];rfl
 rw [hE] at HC;rw [hF] at HR;rw [hG];clear hE hF hG;by_cases tD:E=0
 ·subst tD;have HV1:Hid (G=if F=0 then (if (x.length:Int)=n then 0 else 5) else F):=HV.out;by_cases Gn:F=0
  ·subst Gn;have HV2:Hid (G=if (x.length:Int)=n then 0 else 5):=HV1.out;by_cases hn:(x.length:Int)=n
   ·have G6:Hid (G=0):=(by rw [if_pos hn] at HV2;exact HV2);clear HV HV1 HV2
    go_enter func219,ntmps219
    go_wp2_with (refine wpList_load_row rfl 76 _ rfl w.heap.size rfl _ #[.int .i64 n,.slice a xss.length c] (0,0) _ HK0 underlying76 rfl (by kernel_rfl) ?_);refine (HC _ (aA.alloc _ _)).mono ?_;rintro e w1 ⟨rfl,hE1⟩;have q1:=hE1.cell q0;have HE1:=oZ (aA.trans (aA.alloc _ _) hE1);clear hE1 HC;go_wp2_with fail;refine (HR _ HE1).mono ?_;rintro e w2 ⟨rfl,hE2⟩;have q2:=hE2.cell q1;have HE2:=oZ (aA.trans HE1 hE2);clear hE2 HR;go_wp2_with fail;go_ret;exact ⟨by rw [G6.out];rfl,HE2⟩
   ·have G6:Hid (G=5):=(by rw [if_neg hn] at HV2;exact HV2);clear HV HV1 HV2
    go_enter func219,ntmps219
    go_wp2_with (refine wpList_load_row rfl 76 _ rfl w.heap.size rfl _ #[.int .i64 n,.slice a xss.length c] (0,0) _ HK0 underlying76 rfl (by kernel_rfl) ?_);refine (HC _ (aA.alloc _ _)).mono ?_;rintro e w1 ⟨rfl,hE1⟩;have q1:=hE1.cell q0;have HE1:=oZ (aA.trans (aA.alloc _ _) hE1);clear hE1 HC;go_wp2_with fail;refine (HR _ HE1).mono ?_;rintro e w2 ⟨rfl,hE2⟩;have q2:=hE2.cell q1;have HE2:=oZ (aA.trans HE1 hE2);clear hE2 HR;go_wp2_with fail;go_ret;exact ⟨by rw [G6.out];rfl,HE2⟩
  ·have HV2:Hid (G=F):=(by rw [if_neg Gn] at HV1;exact HV1);rw [HV2.out];clear HV HV1 HV2
   go_enter func219,ntmps219
   go_wp2_with (refine wpList_load_row rfl 76 _ rfl w.heap.size rfl _ #[.int .i64 n,.slice a xss.length c] (0,0) _ HK0 underlying76 rfl (by kernel_rfl) ?_);refine q_ (HC _ (aA.alloc _ _)) (aA.trans (aA.alloc _ _)) ?_;intro w1 HE1;clear HC;go_wp2_with fail;refine q_ (HR _ HE1) (aA.trans HE1) ?_;intro w2 HE2;clear HR;go_wp2_with fail;go_ret;exact ⟨rfl,HE2⟩
 ·have HV2:Hid (G=E):=by rw [if_neg tD] at HV;exact HV
  rw [HV2.out];clear HV HV2
  go_enter func219,ntmps219
  go_wp2_with (refine wpList_load_row rfl 76 _ rfl w.heap.size rfl _ #[.int .i64 n,.slice a xss.length c] (0,0) _ HK0 underlying76 rfl (by kernel_rfl) ?_);refine q_ (HC _ (aA.alloc _ _)) (aA.trans (aA.alloc _ _)) ?_;intro w1 HE1;clear HC;go_wp2_with fail;go_ret;exact ⟨rfl,HE1⟩
theorem eM {m:pM} {i:Nat} (hi:i<m.length):aD m i∈m:=og (eL hi)
theorem jN {m:pM} {x:pN} (hx:x∈m):∃ i,i<m.length/\aD m i=x:=by
 obtain ⟨i,hi⟩:=List.getElem?_of_mem hx;exact ⟨i,(od.1 hi).1,eO hi⟩
theorem Z3I {x:Int} (h:x.natAbs<=1000000000):bU x=true:=oR (K:=10) (by decide) (by decide) (Nat.lt_of_le_of_lt h (by decide))
theorem Z5P {r:pN} (h:aT 1000000000 r):r.all bU=true:=by
 rw [List.all_eq_true];exact fun x hx=>Z3I (h x hx)
theorem u6_ {r:pN} (hl:r.length<=64) (h:aT 1000000000 r):lg r:=⟨hl,fun x hx=>by have:=h x hx;omega⟩
theorem x2_ {n:Nat}:∀ {R:pM},(∀ r∈R,lg r/\r.length=n)->ez n R=0
 | [],_=>rfl
 | r::l,h=>by
  have hr:=h r (by simp);unfold ez;rw [if_pos ((oK r).2 hr.1),if_pos (by omega)];exact x2_ fun x hx=>h x (by simp [hx])
theorem Z3p (n:Nat) (m:pM) (hn:n<=12) (hm:m.length<=4) (hw:∀ x∈m,x.length=n) (h9:∀ x∈m,aT 9 x) :
  ∃ F R ps,dj n F n m=some R/\a_ n R ps/\R.length<=4/\(∀ x∈R,aT 629856 x/\x.length=n)/\bT n (aG 0 m) (aG 0 R)/\de n R=0/\∃ F',dj n F' n R=some R:=by
 obtain ⟨F,R,ps,h1,h2,h3,-,h5⟩:=nw n 4 1 m hw (fun x hx=>(h9 x hx).mono (by decide)) (.inl hm) (by decide) (by decide);have wg:R.length<=4:=by omega
 have hb:∀ x∈R,aT 629856 x/\x.length=n:=by
  intro x hx;obtain ⟨i,hi,rfl⟩:=jN hx;refine ⟨(Q3_ (N:=9) h3 (fun j hj=>hw _ (eM hj)) (fun j hj=>h9 _ (eM hj)) h5 i hi).mono ?_,h3.1 i hi⟩;have hc:R.length=0\/R.length=1\/R.length=2\/R.length=3\/R.length=4:=by omega
  rcases hc with h | h | h | h | h <;> rw [h] <;> decide
 have hk:de n R=0:=by
  unfold de;have hl:dJ n R=0:=by
   unfold dJ;rw [if_neg (by omega),if_neg (by omega)];exact x2_ fun r hr=>⟨u6_ (by have:=(hb r hr).2;omega) ((hb r hr).1.mono (by decide)),(hb r hr).2⟩
  rw [if_pos hl,if_pos (B2_ h3)]
 refine ⟨F,R,ps,h1,h3,wg,hb,h5,hk,?_⟩;obtain ⟨F',R',ps',g1,g2,g3,-,g5⟩:=nw n 4 6 R (fun x hx=>(hb x hx).2) (fun x hx=>(hb x hx).1.mono (by decide)) (.inl wg) (by decide) (by decide);exact ⟨F',by rw [g1,mb g3 h3 g5.symm]⟩
theorem O0_:∀ (k:Nat) (f:Nat->Rat),(∀ i,i<k->f i=0)->aI k f=0
 | 0,_,_=>rfl
 | k+1,f,h=>by
  show aI k f+f k=0;rw [O0_ k f fun i hi=>h i (by omega),h k (by omega)];grind
theorem fp (n c:Nat):(List.replicate n (0:Int)).getD c 0=0:=by
 rw [oe];by_cases hc:c<n;·rw [oc (by simpa using hc)];simp
 ·rw [o4 (by simp;omega)];rfl
def bD (r s:pN):Nat->Int
 | 0=>0
 | n+1=>bD r s n+r.getD n 0*s.getD n 0
theorem fP (r s:pN):∀ n,bD r s n=bD s r n
 | 0=>rfl
 | n+1=>by unfold bD;rw [fP r s n,Int.mul_comm]
theorem C7_ {r s r' s':pN}:∀ n,(∀ i,i<n->r.getD i 0=r'.getD i 0/\s.getD i 0=s'.getD i 0)->bD r s n=bD r' s' n
 | 0,_=>rfl
 | n+1,h=>by unfold bD;rw [C7_ n fun i hi=>h i (by omega),(h n (by omega)).1,(h n (by omega)).2]
theorem lD (r:pN) (k:Int) {x y:pN} (hl:y.length=x.length):∀ n,bD r (aU k x y) n=bD r x n-k*bD r y n
 | 0=>by unfold bD;omega
 | n+1=>by
  unfold bD;rw [lD r k hl n,en k hl,Int.mul_sub,Int.mul_add];have e:r.getD n 0*(k*y.getD n 0)=k*(r.getD n 0*y.getD n 0):=by rw [<- Int.mul_assoc,Int.mul_comm (r.getD n 0) k,Int.mul_assoc]
  rw [e];omega
theorem lE (r:pN) (m:Nat):∀ n,bD r (List.replicate m 0) n=0
 | 0=>rfl
 | n+1=>by unfold bD;rw [lE r m n,fp];simp
theorem j2_ (n c i:Nat) (hc:c<n):((List.replicate n (0:Int)).set c 1).getD i 0=if i=c then 1 else 0:=by
 rw [oe,pH];by_cases h:c=i;·subst h;rw [if_pos rfl,if_pos rfl,if_pos (by simpa using hc)];rfl
 ·rw [if_neg h,if_neg (fun e=>h e.symm),<- oe,fp]
theorem I1_ (r:pN) (n c:Nat) (hc:c<n):∀ k,bD r ((List.replicate n (0:Int)).set c 1) k=if c<k then r.getD c 0 else 0
 | 0=>by rw [if_neg (by omega)];rfl
 | k+1=>by
  unfold bD;rw [I1_ r n c hc k,j2_ n c k hc];by_cases h:c<k;·rw [if_pos h,if_neg (by omega),if_pos (by omega)];simp
  ·by_cases h2:k=c;·rw [if_neg h,if_pos h2,if_pos (by omega),h2];simp
   ·rw [if_neg h,if_neg h2,if_neg (by omega)];simp
theorem np (k:Nat) (w:pN) (c:Nat):(w.drop k).getD c 0=w.getD (k+c) 0:=by
 rw [oe,oe,pF]
theorem mK {a b:pN} {i:Nat} (h:i<a.length):(a++b).getD i 0=a.getD i 0:=by
 rw [oe,oe,o6 h]
theorem r3_ {a b:pN} {i:Nat} (h:a.length<=i):(a++b).getD i 0=b.getD (i-a.length) 0:=by
 rw [oe,oe,o8 h]
theorem iA (n:Nat) (m:pM):(bK n m).length=n:=by unfold bK;simp
theorem l9 {n c:Nat} {m:pM} (hc:c<n):aD (bK n m) c=m.map (fun r=>r.getD c 0)++(List.replicate n (0:Int)).set c 1:=by
 apply eO;unfold bK;rw [oh,List.getElem?_range hc];rfl
theorem l_ (n:Nat) (m:pM):ak (m.length+n) (bK n m):=fun c hc=>by
 rw [iA] at hc;rw [l9 hc];simp
theorem R0_ {n c i:Nat} {m:pM} (hc:c<n) (hi:i<m.length):(aD (bK n m) c).getD i 0=(aD m i).getD c 0:=by
 rw [l9 hc,mK (by simpa using hi),oe,oh,eL hi];rfl
theorem U0_ {n c j:Nat} {m:pM} (hc:c<n):(aD (bK n m) c).getD (m.length+j) 0=if j=c then 1 else 0:=by
 rw [l9 hc,r3_ (by simp),<- j2_ n c j hc];congr 1;simp
def Z49 (n:Nat) (m:pM) (w:pN):Prop:=w.length=m.length+n/\∀ i,i<m.length->w.getD i 0=bD (aD m i) (w.drop m.length) n
theorem V6_ (q:Int):∀ (k:Nat) (x y:pN),(aU q x y).drop k=aU q (x.drop k) (y.drop k)
 | 0,x,y=>rfl
 | k+1,[],[]=>by simp [aU]
 | k+1,[],_::_=>by simp [aU];cases (List.drop k ‹List Int›) <;> rfl
 | k+1,a::x,[]=>by
  have h:∀ z:pN,aU q z []=z:=fun z=>by cases z <;> rfl
  simp only [List.drop_nil,h]
 | k+1,a::x,b::y=>by
  show (aU q x y).drop k=_;rw [V6_ q k x y];rfl
theorem d8_ {n:Nat} {m:pM} {w:pN} (h:Sp (m.length+n) (aG 0 (bK n m)) w):Z49 n m w:=by
 have hl:=cT (d:=0) (l_ n m)
 induction h with
 | zero =>
  refine ⟨by simp,fun i hi=>?_⟩;rw [fp,List.drop_replicate,lE]
 | mem h =>
  obtain ⟨c,-,hc,rfl⟩:=h;have sn:c<n:=by rw [iA] at hc;exact hc
  refine ⟨l_ n m c hc,fun i hi=>?_⟩;rw [R0_ sn hi,l9 sn,List.drop_left' (by simp),I1_ _ _ _ sn,if_pos sn]
 | less q a b iha ihb =>
  refine ⟨by rw [eX];exact iha.1,fun i hi=>?_⟩;rw [en q (by rw [iha.1,ihb.1]),iha.2 i hi,ihb.2 i hi,V6_,lD _ _ (by rw [List.length_drop,List.length_drop,iha.1,ihb.1])]
theorem Z3Q {n:Nat} {m:pM} {w:pN} (h:Z49 n m w):Sp (m.length+n) (aG 0 (bK n m)) w:=by
 have hl:=cT (d:=0) (l_ n m);have key:∀ j,j<=n->∃ u,Sp (m.length+n) (aG 0 (bK n m)) u/\∀ c,u.getD (m.length+c) 0=if c<j then w.getD (m.length+c) 0 else 0:=by
  intro j
  induction j with
  | zero=>intro _;exact ⟨_,.zero,fun c=>by rw [if_neg (by omega),fp]⟩
  | succ j ih =>
   intro hj;obtain ⟨u,hu,Ed⟩:=ih (by omega);have hmem:aG 0 (bK n m) (aD (bK n m) j):=az (Nat.zero_le _) (by rw [iA];omega);refine ⟨_,.less (-(w.getD (m.length+j) 0)) hu (.mem hmem),fun c=>?_⟩;rw [en _ (by rw [hu.len hl,hl _ hmem]),Ed c,U0_ (by omega)];by_cases I9:c=j;·subst I9;rw [if_neg (by omega),if_pos rfl,if_pos (by omega)];omega
   ·rw [if_neg I9];by_cases h2:c<j;·rw [if_pos h2,if_pos (by omega)];simp
    ·rw [if_neg h2,if_neg (by omega)];simp
 obtain ⟨u,hu,Ed⟩:=key n (oz _);have hP:=d8_ hu;have hc:∀ c,c<n->u.getD (m.length+c) 0=w.getD (m.length+c) 0:=fun c hc=>by rw [Ed c,if_pos hc]
 have:u=w:=by
  refine L3_ (by rw [hP.1,h.1]) fun c=>?_;by_cases h1:c<m.length
  ·rw [hP.2 c h1,h.2 c h1];exact C7_ n fun i hi=>⟨rfl,by rw [np,np,hc i hi]⟩
  ·by_cases h2:c<m.length+n
   ·have:=hc (c-m.length) (by omega);rw [show m.length+(c-m.length)=c by omega] at this;exact this
   ·rw [oe,oe,o4 (by rw [hP.1];omega),o4 (by rw [h.1];omega)]
 rw [<- this];exact hu
def cV (n:Nat) (m:pM) (v:pN):Prop:=v.length=n/\∀ i,i<m.length->bD (aD m i) v n=0
theorem Z3k {h:pM} {N:Nat} {ps:Nat->Nat} (hh:a_ N h ps) (k:Nat):∃ d,d<=h.length/\(∀ i,i<d->ps i<k)/\∀ i,d<=i->i<h.length->k<=ps i:=by
 have key:∀ l,l<=h.length->∃ d,d<=l/\(∀ i,i<d->ps i<k)/\∀ i,d<=i->i<l->k<=ps i:=by
  intro l
  induction l with
  | zero=>intro _;exact ⟨0,oz _,fun i hi=>by omega,fun i _ hi=>by omega⟩
  | succ l ih =>
   intro hl;obtain ⟨d,h1,h2,h3⟩:=ih (by omega);by_cases hd:d=l
   ·by_cases hp:ps l<k
    ·exact ⟨l+1,oz _,fun i hi=>by
      by_cases hil:i=l;·rw [hil];exact hp
      ·exact h2 i (by omega),fun i _ hi=>by omega⟩
    ·exact ⟨l,by omega,fun i hi=>h2 i (by omega),fun i a b=>by
      have:i=l:=by omega
      rw [this];omega⟩
   ·refine ⟨d,by omega,h2,fun i a b=>?_⟩;by_cases hil:i=l
    ·have h4:=h3 (l-1) (by omega) (by omega);have h5:=hh.2.mono (l-1) l (by omega) (by omega);rw [hil];omega
    ·exact h3 i a (by omega)
 exact key h.length (oz _)
theorem U6_ {α:Type} (p:α->Bool):∀ (l:List α) (d:Nat),(∀ i x,i<d->l[i]?=some x->p x=false)->(∀ i x,d<=i->l[i]?=some x->p x=true)->l.filter p=l.drop d
 | [],d,_,_=>by simp
 | x::l,0,h1,h2=>by
  rw [List.filter_cons_of_pos (h2 0 x (by omega) rfl)];have:=U6_ p l 0 (fun i x hi=>by omega) fun i y _ hy=>h2 (i+1) y (by omega) hy;rw [this];rfl
 | x::l,d+1,h1,h2=>by
  rw [List.filter_cons_of_neg (by rw [h1 0 x (by omega) rfl];simp)];exact U6_ p l d (fun i y hi hy=>h1 (i+1) y (by omega) hy) fun i y hi hy=>h2 (i+1) y (by omega) hy
theorem i2_ {h:pM} {N k d:Nat} {ps:Nat->Nat} (hh:a_ N h ps) (h1:∀ i,i<d->ps i<k) (h2:∀ i,d<=i->i<h.length->k<=ps i):dp k h=(h.drop d).map (·.drop k):=by
 unfold dp;congr 1;refine U6_ _ h d (fun i x hi hx=>?_) fun i x hi hx=>?_
 ·have hl:=(od.1 hx).1;rw [<- eO hx,B3_ hh hl];have:=h1 i hi;exact pD (by omega)
 ·have hl:=(od.1 hx).1;rw [<- eO hx,B3_ hh hl];have:=h2 i hi hl;exact pE (by omega)
theorem gw {h:pM} {k d i:Nat} (hi:d+i<h.length):aD ((h.drop d).map (·.drop k)) i=(aD h (d+i)).drop k:=by
 apply eO;rw [oh,pF,eL hi];rfl
theorem J2_ {h:pM} {n k d:Nat} {ps:Nat->Nat} (hh:a_ (k+n) h ps) (hd:d<=h.length) (h1:∀ i,i<d->ps i<k) (h2:∀ i,d<=i->i<h.length->k<=ps i) :
  a_ n ((h.drop d).map (·.drop k)) (fun i=>ps (d+i)-k):=by
 have hlen:((h.drop d).map (·.drop k)).length=h.length-d:=by simp
 have hE:∀ i c,d+i<h.length->aC ((h.drop d).map (·.drop k)) i c=aC h (d+i) (k+c):=fun i c hi=>by
  unfold aC;rw [gw hi,np]
 refine ⟨fun i hi=>?_,?_⟩
 ·rw [hlen] at hi;rw [gw (by omega),List.length_drop,hh.1 _ (by omega)];omega
 ·rw [hlen];refine ⟨fun i hi=>?_,fun i j qH hj=>?_,fun i hi c' hc=>?_,fun i hi=>?_,fun i j qH hj=>?_,fun i a b=>by rw [hlen] at b;omega⟩;·have:=hh.2.lt (d+i) (by omega);have:=h2 (d+i) (by omega) (by omega);show ps (d+i)-k<n;omega
  ·have:=hh.2.mono (d+i) (d+j) (by omega) (by omega);have:=h2 (d+i) (by omega) (by omega);show ps (d+i)-k<ps (d+j)-k;omega
  ·rw [hE i c' (by omega)];have:=h2 (d+i) (by omega) (by omega);exact hh.2.zero (d+i) (by omega) _ (by have:c'<ps (d+i)-k:=hc;omega)
  ·have:=h2 (d+i) (by omega) (by omega);rw [hE i _ (by omega),show k+(ps (d+i)-k)=ps (d+i) by omega];exact hh.2.pos (d+i) (by omega)
  ·have:=h2 (d+j) (by omega) (by omega);rw [hE i _ (by omega),hE j _ (by omega),show k+(ps (d+j)-k)=ps (d+j) by omega];exact hh.2.red (d+i) (d+j) (by omega) (by omega)
theorem Z3P {h:pM} {N k d:Nat} {ps:Nat->Nat} (hh:a_ N h ps) (hd:d<=h.length) (h1:∀ i,i<d->ps i<k) {w:pN} (hz:∀ c,c<k->w.getD c 0=0):∀ j,j<=d->Sp N (aG (d-j) h) w->Sp N (aG d h) w
 | 0,_,hw=>hw
 | j+1,hj,hw=>by
  obtain ⟨t,e,ht⟩:=hw.first hh (by omega)
  rw [hz _ (h1 _ (by omega))] at e;have hp:=hh.2.pos (d-(j+1)) (by omega);have h0:t=0:=G9_ hp (by omega) (by omega);rw [h0,jL,show d-(j+1)+1=d-j by omega] at ht;exact Z3P hh hd h1 hz j (by omega) ht
theorem k2_ {h:pM} {n k d:Nat} {w:pN} (hw:Sp (k+n) (aG d h) w):Sp n (aG 0 ((h.drop d).map (·.drop k))) (w.drop k):=by
 induction hw with
 | zero=>rw [List.drop_replicate,show k+n-k=n by omega];exact .zero
 | mem hm =>
  obtain ⟨i,h1,h2,rfl⟩:=hm;have:=gw (h:=h) (k:=k) (d:=d) (i:=i-d) (by omega);rw [show d+(i-d)=i by omega] at this;rw [<- this];exact .mem (az (Nat.zero_le _) (by simp;omega))
 | less q a b iha ihb=>rw [V6_];exact .less q iha ihb
theorem Z5z {h m:pM} {n d:Nat} {ps:Nat->Nat} (hh:a_ (m.length+n) h ps) (hs:bT (m.length+n) (aG 0 (bK n m)) (aG 0 h)) (hd:d<=h.length) (h1:∀ i,i<d->ps i<m.length) (h2:∀ i,d<=i->i<h.length->m.length<=ps i) (v:pN) :
  Sp n (aG 0 ((h.drop d).map (·.drop m.length))) v↔cV n m v:=by
 have hW:=(J2_ hh hd h1 h2).1;constructor
 ·intro hv
  induction hv with
  | zero=>exact ⟨by simp,fun i _=>lE _ _ _⟩
  | mem hm =>
   obtain ⟨i,-,hi,rfl⟩:=hm;have yU:d+i<h.length:=(by simp at hi;omega);refine ⟨hW i hi,fun j hj=>?_⟩;have hP:=d8_ (hs.2 _ (az (Nat.zero_le (d+i)) yU));rw [gw yU,<- hP.2 j hj];have:=h2 (d+i) (by omega) yU;exact hh.2.zero (d+i) yU j (by omega)
  | less q a b iha ihb =>
   refine ⟨by rw [eX];exact iha.1,fun i hi=>?_⟩;rw [lD _ _ (by rw [iha.1,ihb.1]),iha.2 i hi,ihb.2 i hi];simp
 ·intro hv;have hw:Z49 n m (List.replicate m.length 0++v):=by
   refine ⟨by rw [pG,List.length_replicate,hv.1],fun i hi=>?_⟩;rw [mK (by simpa using hi),fp,List.drop_left' (by simp),hv.2 i hi]
  have h3:=(hs.iff _).1 (Z3Q hw);have h4:=Z3P (w:=List.replicate m.length 0++v) hh hd h1 (fun c hc=>by rw [mK (by simpa using hc),fp]) d (oz _) (by rw [Nat.sub_self];exact h3);have h5:=k2_ h4;rw [List.drop_left' (by simp)] at h5;exact h5
theorem Z45 {h m:pM} {n:Nat} {ps:Nat->Nat} (hh:a_ (m.length+n) h ps) (hs:bT (m.length+n) (aG 0 (bK n m)) (aG 0 h)):n<=h.length:=by
 refine Classical.byContradiction fun hlt=>?_;have hlt:h.length<n:=by omega
 obtain ⟨R,hR⟩:=pL (h++List.replicate (n-h.length) (List.replicate (m.length+n) (0:Int)));have hRl:R.length=n:=by rw [hR];simp;omega
 have r7:∀ i,i<h.length->aD R i=aD h i:=fun i hi=>by
  apply eO;rw [hR,o6 hi];exact eL hi
 have hR2:∀ i,h.length<=i->i<n->aD R i=List.replicate (m.length+n) 0:=fun i hi hn=>by
  apply eO;rw [hR,o8 hi,List.getElem?_replicate,if_pos (by omega)]
 have hW:ak (m.length+n) R:=fun i hi=>by
  by_cases h1:i<h.length;·rw [r7 i h1];exact hh.1 i h1
  ·rw [hR2 i (by omega) (by omega)];simp
 have h0:al R.length (fun b=>m.length+b) (aD R)=0:=by
  unfold al;refine ia (r:=h.length) (by omega) fun b _=>?_;show (((aD R h.length).getD (m.length+b) 0:Int):Rat)=0;rw [hR2 _ (oz _) hlt,fp];rfl
 have h1:=mI (Q:=fun x=>x=0) (jS (m.length+n) R.length fun b=>m.length+b) nW hW h0 (aD (bK n m)) fun a ha=>by
  have:=hs.1 _ (az (Nat.zero_le a) (by rw [iA];omega));refine this.mono fun r hr=>?_;obtain ⟨i,-,hi,rfl⟩:=hr;rw [<- r7 i hi];exact .mem (az (Nat.zero_le _) (by omega))
 have h2:al R.length (fun b=>m.length+b) (aD (bK n m))=1:=by
  rw [<- L1_ R.length];unfold al;refine cZ fun a b ha hb=>?_;show (((aD (bK n m) a).getD (m.length+b) 0:Int):Rat)=_;rw [U0_ (by omega)];by_cases qL:a=b;·rw [if_pos qL.symm,if_pos qL];rfl
  ·rw [if_neg (fun e=>qL e.symm),if_neg qL];rfl
 rw [h2] at h1;exact absurd h1 (by decide)
end Go.Proofs.YtoonaddcfakamaaGreatDoor
