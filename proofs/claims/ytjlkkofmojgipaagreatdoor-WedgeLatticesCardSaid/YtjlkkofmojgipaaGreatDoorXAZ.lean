import Derived.Test.YtjlkkofmojgipaaGreatDoorXAA
import Derived.Test.YtjlkkofmojgipaaGreatDoorProg
import Derived.Test.YtjlkkofmojgipaaGreatDoorXAY
import Derived.Deep.Cut
import Derived.Test.YtjlkkofmojgipaaGreatDoorXAM
import Derived.Test.YtjlkkofmojgipaaGreatDoorXAT
import Derived.Test.YtjlkkofmojgipaaGreatDoorXAF
import Derived.Test.YtjlkkofmojgipaaGreatDoorXAU
set_option linter.unusedVariables false
set_option linter.unusedSimpArgs false
set_option maxRecDepth 1000000
set_option maxHeartbeats 4000000
namespace Go.Proofs.YtjlkkofmojgipaaGreatDoor
open Go.RowKit Go.Proofs.Tryz
def lB {α:Type} (p:α->Bool) (xs:List α):Int:=match xs.findIdx? p with | some i=>(i:Int) | none=>-1
def n7_ {α:Type} (R:World->Value->α->Prop) (g:Nat) (lb:Array Value) (p:α->Bool) (w:World) (xs:List α):Prop :=
 ∀ W x a,x∈xs->aC w W->R W a x->Calls prog g (#[a]++lb) W fun e W'=>e=.returned (.bool (p x))/\aC W W'
theorem M0_ {α:Type} {R:World->Value->α->Prop} (hR:∀ w w' v x,aC w w'->R w v x->R w' v x) (xs:List α) (v:Value) (g:Nat) (lb:Array Value) (p:α->Bool) (w:World) (h:aI 1 (bT R) w v xs) (eg:∀ args w,(callFunc g args).run prog w=.ok (.enter g args) w) (hp:n7_ R g lb p w xs) :
  oW 189 #[v,.func (.func g) #[] lb] w (.int .i64 (lB p xs)):=by
 obtain ⟨a,c,rfl,h1,h2,-,hc⟩:=bT.open h;have HC:=n8 hc;have HPR:=n8 hp;have HR:=n8 hR;clear hc h hp hR;unfold maxLen at h2
 go_enter func189,ntmps189
 go_wp2
 go_loopw [8] (fun t wr=>∃ pre rest,t=.int .i64 (pre.length:Nat)/\aC w wr/\Hid (xs=pre++rest)/\Hid (∀ x∈pre,p x=false)) (fun t _=>xs.length-(intOf t).toNat)
 case atStart=>exact ⟨[],xs,rfl,aC.refl _,rfl,by intro x hx;simp at hx⟩
 case round =>
  obtain ⟨pre,rest,rfl,hE,HP,HA⟩:=hrel;obtain ⟨wo,rfl⟩:∃ wo:World,wo=wr:=⟨_,rfl⟩;have hlen:xs.length=pre.length+rest.length:=by rw [HP.out];simp
  cases rest with
  | nil =>
   have:¬ (pre.length<xs.length):=by simp at hlen;omega
   clear hlen
   go_wp2
   go_ret;have:lB p xs=-1:=by
    have:xs.findIdx? p=none:=by rw [HP.out,List.append_nil,List.findIdx?_eq_none_iff];exact HA
    unfold lB;rw [this]
   rw [this];exact ⟨rfl,hE⟩
  | cons x rest =>
   have hlt:pre.length<xs.length:=by simp at hlen;omega
   clear hlen;obtain ⟨b,off,rfl,hb,hcell⟩:=HC (by rw [HP.out];simp);obtain ⟨vx,qh,pG⟩:=hcell pre.length x (by rw [HP.out];simp);have g1:=hE.cell pG;have hcall:=HPR wo x vx (by rw [HP.out];simp) hE (HR _ _ _ _ hE qh);clear hcell qh pG;cases hq:p x with
   | true =>
    have HRR:Hid (lB p xs=pre.length):=by
     unfold Hid lB;rw [HP.out,List.findIdx?_append,(List.findIdx?_eq_none_iff (xs:=pre)).2 HA.out,List.findIdx?_cons,hq];simp
    rw [hq] at hcall;have HCALL:=n8 hcall;clear hcall hq;go_wp2_with (go_at_fn g;refine HCALL.mono ?_;rintro e w' ⟨rfl,wM⟩);go_ret;rw [HRR.out];exact ⟨rfl,hE.trans (by assumption)⟩
   | false =>
    have IU:Hid (∀ y∈pre++[x],p y=false):=by
     intro y hy;rcases List.mem_append.1 hy with hy | hy
     ·exact HA y hy
     ·rw [List.mem_singleton.1 hy];exact hq
    rw [hq] at hcall;have HCALL:=n8 hcall;clear hcall hq;go_wp2_with (go_at_fn g;refine HCALL.mono ?_;rintro e w' ⟨rfl,wM⟩);go_roundw
    case rel=>exact ⟨pre++[x],rest,by simp,hE.trans (by assumption),by unfold Hid;rw [HP.out];simp,IU⟩
    case measure=>simp [intOf];omega
theorem K1_ {α:Type} {R:World->Value->α->Prop} (hR:∀ w w' v x,aC w w'->R w v x->R w' v x) (xs:List α) (v:Value) (g:Nat) (lb:Array Value) (p:α->Bool) (w:World) (h:aI 1 (bT R) w v xs) (eg:∀ args w,(callFunc g args).run prog w=.ok (.enter g args) w) (hp:n7_ R g lb p w xs) :
  oW 141 #[v,.func (.func g) #[] lb] w (.bool (xs.any p)):=by
 have hcall:=M0_ hR xs v g lb p w h eg hp;cases hf:xs.findIdx? p with
 | none =>
  have HRR:Hid (xs.any p=false):=by
   unfold Hid;rw [List.findIdx?_eq_none_iff] at hf;simpa using hf
  unfold lB at hcall;rw [hf] at hcall;have HCALL:=n8 hcall;clear hcall hf hp h hR
  go_enter func141,ntmps141
  go_wp2_with (go_at_call 189;refine HCALL.mono ?_;rintro e w' ⟨rfl,wM⟩);go_ret;rw [HRR.out];exact ⟨rfl,by assumption⟩
 | some i =>
  have HRR:Hid (xs.any p=true):=by
   unfold Hid;rw [List.any_eq_true];obtain ⟨hi,AD,_⟩:=List.findIdx?_eq_some_iff_getElem.1 hf;exact ⟨_,List.getElem_mem hi,AD⟩
  have wJ:(0:Int)<=(i:Int):=by omega
  unfold lB at hcall;rw [hf] at hcall;have HCALL:=n8 hcall;clear hcall hf hp h hR
  go_enter func141,ntmps141
  go_wp2_with (go_at_call 189;refine HCALL.mono ?_;rintro e w' ⟨rfl,wM⟩);go_ret;rw [HRR.out];exact ⟨rfl,by assumption⟩
def iJ (r:List Int):Int:=gT (· != 0) r
def jj (xs:List (List Int)) (i:Nat):Int:=if i=0 then -1 else iJ (xs.getD (i-1) [])
def ib (p:Nat) (r x:List Int):Bool:=decide (x.getD p 0<0) || decide (r.getD p 0<=x.getD p 0)
def jW (xs:List (List Int)) (i:Nat):Bool :=
 decide (jj xs i<iJ (xs.getD i [])) && decide (0<=(xs.getD i []).getD (iJ (xs.getD i [])).toNat 0) && !(xs.take i).any (ib (iJ (xs.getD i [])).toNat (xs.getD i []))
def ij (xs:List (List Int)):Bool:=(List.range xs.length).all (jW xs)
theorem Z5g (r:List Int):iJ r<r.length:=by
 unfold iJ gT;cases h:r.findIdx? (· != 0) with
 | none=>show (-1:Int)<_;omega
 | some i=>obtain ⟨hi,-⟩:=List.findIdx?_eq_some_iff_getElem.1 h;show (i:Int)<_;omega
theorem Z1I (r:List Int):-1<=iJ r:=by
 unfold iJ gT;cases h:r.findIdx? (· != 0) with
 | none=>show (-1:Int)<=-1;omega
 | some i=>show (-1:Int)<=i;omega
theorem aI.take1 {α:Type} {k:Nat} {R:World->List Value->α->Prop} {w:World} {b off c:Nat} {xs:List α} (h:aI k R w (.slice (some ⟨b,off,none⟩) xs.length c) xs) (j:Nat) (hj:j<=xs.length):aI k R w (.slice (some ⟨b,off,none⟩) j c) (xs.take j):=by
 obtain ⟨us,h1,h2,⟨a,cap,hv,h3,h4,h5,h6⟩,h7⟩:=h;simp only [Value.slice.injEq,true_and] at hv;obtain ⟨rfl,rfl⟩:=hv;have hlen:(xs.take j).length=j:=by rw [oF];omega
 refine ⟨us.take j,by rw [oF,oF];omega,fun u hu=>h2 u (List.mem_of_mem_take hu),?_,fun i u x hu hx=>?_⟩
 ·rw [hlen];refine ⟨_,_,rfl,by omega,h4,h5,fun hne=>?_⟩;have yd:us.flatten=(us.take j).flatten++(us.drop j).flatten:=by rw [<- List.flatten_append,List.take_append_drop]
  obtain ⟨b',off',ha,hb,hc⟩:=h6 (by rw [yd];intro e;exact hne (List.append_eq_nil_iff.1 e).1);refine ⟨b',off',ha,hb,fun i u hu=>hc i u ?_⟩;rw [yd,oM (n_.1 hu).1];exact hu
 ·rw [List.getElem?_take] at hu hx
  split at hu
  ·rw [if_pos (by assumption)] at hx;exact h7 i u x hu hx
  ·cases hu
theorem b7_ (xs:List (List Int)) (i:Nat):-1<=jj xs i:=by
 unfold jj;split
 ·omega
 ·exact Z1I _
theorem G8_ (f:Nat->Bool) (j:Nat):(List.range (j+1)).all f=((List.range j).all f && f j):=by
 rw [List.range_succ,List.all_append];simp
theorem Z3D {xs:List (List Int)} {j:Nat} (hj:j<xs.length) (h:jW xs j=false):ij xs=false:=by
 unfold ij;rw [List.all_eq_false];exact ⟨j,List.mem_range.2 hj,by simp [h]⟩
theorem l4_ (x r:List Int) (p gp gr:Nat) (vx vr:Value) (w:World) (hx:au w vx x) (hr:au w vr r) (cp:w.cell? ⟨gp,0,none⟩=some (.int .i64 p)) (cr:w.cell? ⟨gr,0,none⟩=some vr) (BY:p<x.length) (Iv:p<r.length) :
  oW 142 #[vx,.pointer (some ⟨gp,0,none⟩),.pointer (some ⟨gr,0,none⟩)] w (.bool (ib p r x)):=by
 obtain ⟨ax,cx,rfl,x1,x2,-,xb,xc⟩:=hx.open;obtain ⟨ar,cr',rfl,r1,r2,-,rb,rc⟩:=hr.open;obtain ⟨bx,ox,rfl,-,xcell⟩:=xc (by intro e;simp [e] at BY);obtain ⟨br,or,rfl,-,rcell⟩:=rc (by intro e;simp [e] at Iv);obtain ⟨a,ha⟩:∃ a,x[p]?=some a:=⟨_,n9 BY⟩;obtain ⟨b,hb⟩:∃ b,r[p]?=some b:=⟨_,n9 Iv⟩;have ga:=xcell p a ha;have gb:=rcell p b hb;have HV:Hid (ib p r x=(decide (a<0) || decide (b<=a))):=by
  unfold Hid ib;rw [oC,oC,ha,hb];rfl
 rw [HV.out];unfold maxLen at x2 r2;clear ha hb xb rb xc rc xcell rcell hx hr HV;by_cases h1:a<0
 ·have d1:decide (a<0)=true:=oS h1
  go_enter func142,ntmps142
  go_wp2_with fail
  go_quiet (fail)
  go_wp2_with fail;go_ret;exact ⟨by simp [h1],aC.drewN _ _⟩
 ·have d1:decide (a<0)=false:=oR h1;by_cases h2:b<=a
  ·have d2:decide (b<=a)=true:=oS h2
   go_enter func142,ntmps142
   go_wp2_with fail
   go_quiet (fail)
   go_wp2_with fail;go_ret;exact ⟨by simp [h1,h2],aC.drewN _ _⟩
  ·have d2:decide (b<=a)=false:=oR h2
   go_enter func142,ntmps142
   go_wp2_with fail
   go_quiet (fail)
   go_wp2_with fail;go_ret;exact ⟨by simp [h1,h2],aC.drewN _ _⟩
theorem Z09 (xss:List (List Int)) (v:Value) (n:Nat) (w:World) (h:bQ w v xss) (hn:∀ r∈xss,r.length=n) :
  oW 85 #[v] w (.bool (ij xss)):=by
 have HX:=n8 h;have HN:=n8 hn;obtain ⟨a,c,rfl,h1,h2,-,hc⟩:=bT.open h;have HC:=n8 hc;unfold maxLen at h2;clear h hc hn
 go_enter func85,ntmps85
 go_wp2_with fail
 go_loopw [9,3] (fun t b wr=>∃ j:Nat,j<=xss.length/\t=.int .i64 j/\b=.int .i64 (jj xss j)/\aC w wr/\Hid ((List.range j).all (jW xss)=true)) (fun t _ _=>xss.length-(intOf t).toNat)
 case atStart=>exact ⟨0,by omega,rfl,rfl,aC.refl _,rfl⟩
 case round =>
  obtain ⟨j,hj,rfl,rfl,hE,HA⟩:=hrel;obtain ⟨wo,rfl⟩:∃ wo:World,wo=wr:=⟨_,rfl⟩;have HE:=n8 hE;by_cases hlt:j<xss.length
  ·obtain ⟨r,hr⟩:∃ r,xss[j]?=some r:=⟨_,n9 hlt⟩;obtain ⟨b,off,rfl,hb,hcell⟩:=HC (by intro e;simp [e] at hlt);obtain ⟨vr,qu,sJ⟩:=hcell j r hr;obtain ⟨ar,cr,rfl,r1,r2,-,rb,rc⟩:=qu.open;unfold maxLen at r2;have g1:=hE.cell sJ;have HR:=n8 (au.ext qu hE);have HRn:=n8 (HN r (oD hr));have HP:=n8 (fun W (hW:aC wo W)=>z6_ r _ W (au.ext HR hW));have HG:Hid (xss.getD j []=r):=by unfold Hid;rw [oC,hr];rfl
   obtain ⟨p,hp⟩:∃ p:Int,gT (· != 0) r=p:=⟨_,rfl⟩;obtain ⟨q,hq⟩:∃ q:Int,jj xss j=q:=⟨_,rfl⟩;rw [hp] at HP;have LI:p<r.length:=by rw [<- hp];exact Z5g r
   have LJ:-1<=p:=by rw [<- hp];exact Z1I r
   have HOK:Hid (jW xss j=(decide (q<p) && decide (0<=r.getD p.toNat 0) && !(xss.take j).any (ib p.toNat r))):=by
    unfold Hid jW iJ;rw [HG.out,hp,hq]
   have HQ2:Hid (jj xss (j+1)=p):=by
    unfold Hid jj;rw [if_neg (by omega),Nat.add_sub_cancel,HG.out];exact hp
   rw [hq];have HTK:Hid (∀ W,aC wo W->bQ W (.slice (some ⟨b,off,none⟩) j c) (xss.take j)):=fun W hW=>aI.take1 (bQ.ext HX (aC.trans hE hW)) j hj;have HPL:Hid (∀ x∈xss.take j,x.length=n):=fun x hx=>HN x (List.mem_of_mem_take hx);have wF:-1<=q:=by rw [<- hq];exact b7_ _ _
   have HHB:=n8 (Z3D (xs:=xss) hlt);have HSU:Hid (jW xss j=true->(List.range (j+1)).all (jW xss)=true):=fun h=>by rw [G8_,HA.out,h];rfl
   have RC:=n8 rc;clear hr hcell qu sJ hp hq hE HX rb rc;go_wp2_with fail;refine (HP _ (aC.alloc _ _)).mono ?_;rintro e w5 ⟨rfl,ou⟩;have HE5:=n8 ou;have k0:=ou.cell (a:=⟨wo.heap.size,0,none⟩) (by rw [World.cell?_alloc_new];rfl);clear ou HP;have e1:aC wo (w5.alloc (.cells #[.int .i64 p] 3)):=aC.trans (aC.alloc _ _) (aC.trans HE5 (aC.alloc _ _));have HE6:=n8 e1;have k1:=(aC.alloc w5 (.cells #[.int .i64 p] 3)).cell k0;have k2:(w5.alloc (.cells #[.int .i64 p] 3)).cell? ⟨w5.heap.size,0,none⟩=some (.int .i64 p):=by rw [World.cell?_alloc_new];rfl
   clear e1;by_cases x8:p<=q
   ·have HF:Hid (ij xss=false):=HHB (by rw [HOK.out,oR (by omega)];rfl);go_wp2_with fail;go_ret;rw [HF.out];exact ⟨rfl,aC.trans HE HE6⟩
   ·obtain ⟨k,rfl⟩:∃ k:Nat,p=k:=⟨p.toNat,by omega⟩;have hkl:k<r.length:=by omega
    obtain ⟨y,hy⟩:∃ y,r[k]?=some y:=⟨_,n9 hkl⟩;obtain ⟨br,obr,rfl,-,rcell⟩:=RC.out (by intro e;simp [e] at hkl);have k3:=HE6.cell (HE.cell (rcell k y hy));have HGD:Hid (r.getD ((k:Int).toNat) 0=y):=by unfold Hid;rw [Int.toNat_natCast,oC,hy];rfl
    clear rcell;by_cases pR:y<0
    ·have HF:Hid (ij xss=false):=HHB (by rw [HOK.out,HGD.out,oR (show ¬ 0<=y by omega),Bool.and_false];rfl);clear hy;go_wp2_with fail;go_ret;rw [HF.out];exact ⟨rfl,aC.trans HE HE6⟩
    ·have HPR:Hid (n7_ au 142 #[.pointer (some ⟨w5.heap.size,0,none⟩),.pointer (some ⟨wo.heap.size,0,none⟩)] (ib k r) (w5.alloc (.cells #[.int .i64 k] 3)) (xss.take j)):=by
      intro W x vx hx hW qh;exact l4_ x r k w5.heap.size wo.heap.size vx _ W qh (au.ext HR (aC.trans HE6 hW)) (hW.cell k2) (hW.cell k1) (by rw [HPL.out x hx,<- HRn.out];exact hkl) hkl
     have HCT:=n8 (K1_ (R:=au) (fun _ _ _ _ he h=>au.ext h he) (xss.take j) _ 142 _ (ib k r) (w5.alloc (.cells #[.int .i64 k] 3)) (HTK _ HE6) (enters_of func142 (by kernel_rfl) rfl) HPR);have HOK2:Hid (jW xss j=!(xss.take j).any (ib k r)):=by
      unfold Hid;rw [HOK.out,HGD.out,oS (show 0<=y by omega),oS (show q<(k:Int) by omega),Int.toNat_natCast];rfl
     obtain ⟨bb,hbb⟩:∃ bb:Bool,(xss.take j).any (ib k r)=bb:=⟨_,rfl⟩;rw [hbb] at HCT HOK2;clear hy hbb HPR;cases bb with
     | true =>
      have HF:Hid (ij xss=false):=HHB (by rw [HOK2.out];rfl);go_wp2_with fail;refine HCT.mono ?_;rintro e w7 ⟨rfl,qS⟩;have HE7:=n8 (aC.trans HE6 qS);clear qS HCT;go_wp2_with fail;go_ret;rw [HF.out];exact ⟨rfl,aC.trans HE HE7⟩
     | false =>
      have HNX:Hid ((List.range (j+1)).all (jW xss)=true):=HSU (by rw [HOK2.out];rfl);go_wp2_with fail;refine HCT.mono ?_;rintro e w7 ⟨rfl,qS⟩;have HE7:=n8 (aC.trans HE6 qS);have k4:=qS.cell k2;clear qS HCT;go_wp2_with fail;go_roundw
      case rel=>exact ⟨j+1,by omega,by go_num,by rw [HQ2.out],aC.trans HE HE7,HNX⟩
      case measure=>simp [intOf];omega
  ·have HT:Hid (ij xss=true):=by
    have:j=xss.length:=by omega
    rw [this] at HA;exact HA
   go_wp2_with fail;go_ret;rw [HT.out];exact ⟨rfl,HE⟩
theorem Z3w {r:List Int} {p:Nat} (hz:∀ c,c<p->r.getD c 0=0) (hp:r.getD p 0≠0):r.findIdx? (· != 0)=some p:=by
 have hl:p<r.length:=by
  rcases Nat.lt_or_ge p r.length with h | h
  ·exact h
  ·exact absurd (by rw [oC,oK h];rfl) hp
 rw [List.findIdx?_eq_some_iff_getElem];refine ⟨hl,?_,fun j hj=>?_⟩
 ·rw [oC,n9 hl] at hp;simpa using hp
 ·have:=hz j hj;rw [oC,n9 (by omega)] at this;simpa using this
theorem l3_ {n:Nat} {R:List (List Int)} {ps:Nat->Nat} (hR:iD n R ps) {i:Nat} (hi:i<R.length):(aG R i).findIdx? (· != 0)=some (ps i) :=
 Z3w (fun c hc=>hR.2.zero i hi c hc) (Int.ne_of_gt (hR.2.pos i hi))
theorem s8_ {n:Nat} {R:List (List Int)} {ps:Nat->Nat} (hR:iD n R ps) {i:Nat} (hi:i<R.length):iJ (aG R i)=(ps i:Int):=by
 unfold iJ gT;rw [l3_ hR hi]
theorem Z07 {n:Nat} {R:List (List Int)} {ps:Nat->Nat} (hR:iD n R ps):ij R=true:=by
 unfold ij;rw [List.all_eq_true];intro i hi;rw [List.mem_range] at hi;have e:R.getD i []=aG R i:=rfl;have e1:=s8_ hR hi;unfold jW;rw [e,e1];have hb:jj R i<(ps i:Int):=by
  unfold jj
  split
  ·omega
  ·rename_i h0;have e2:iJ (R.getD (i-1) [])=(ps (i-1):Int):=s8_ hR (i:=i-1) (by omega);rw [e2];have:=hR.2.mono (i-1) i (by omega) hi;omega
 have hp:0<=(aG R i).getD ((ps i:Int)).toNat 0:=Int.le_of_lt (hR.2.pos i hi);have hn:(R.take i).any (ib ((ps i:Int)).toNat (aG R i))=false:=by
  rw [List.any_eq_false];intro x hx;obtain ⟨j,hj⟩:=List.getElem?_of_mem hx;have hjl:=(n_.1 hj).1;rw [oF] at hjl;have Ic:aG R j=x:=by rw [<- R1_ (d:=i) (by omega)];exact gj hj
  have hr:=hR.2.red j i (by omega) hi;unfold ib;rw [<- Ic];have h1:¬ (aG R j).getD ((ps i:Int)).toNat 0<0:=Int.not_lt.2 hr.1;have h2:¬ (aG R i).getD ((ps i:Int)).toNat 0<=(aG R j).getD ((ps i:Int)).toNat 0:=Int.not_le.2 hr.2;rw [oR h1,oR h2];simp
 rw [oS hb,oS hp,hn];rfl
theorem f4_ {r s:List Int} (hl:r.length=s.length) (h:∀ c,r.getD c 0=s.getD c 0):r=s:=by
 apply List.ext_getElem hl;intro i h1 h2;have e:=h i;rw [oC,oC,n9 h1,n9 h2] at e;simpa using e
def g_ (V:Nat->List Int) (r:Nat) (x:List Int):Nat->List Int:=fun a=>if a=r then x else V a
theorem Z37 (V:Nat->List Int) (r:Nat):g_ V r (V r)=V:=by
 funext a;unfold g_;split
 ·rename_i h;rw [h]
 ·rfl
structure mW (n k:Nat) (G:(Nat->List Int)->Rat):Prop where
 lin:∀ V r x y (q:Int),r<k->x.length=y.length->G (g_ V r (an q x y))=G (g_ V r x)+(-(q:Rat))*G (g_ V r y)
 zero:∀ V r,r<k->G (g_ V r (List.replicate n 0))=0
 eq:∀ V i j,i<k->j<k->i≠j->V i=V j->G V=0
 swap:∀ V i j,i<j->j<k->G (fun a=>V (aV i j a))=- G V
 ext:∀ V W,(∀ a,a<k->V a=W a)->G V=G W
def cU (S:Nat->Nat) (V:Nat->List Int):Nat->Nat->Rat:=fun a b=>(((V a).getD (S b) 0:Int):Rat)
def bp (k:Nat) (S:Nat->Nat) (V:Nat->List Int):Rat:=aU k (cU S V)
theorem y6_ (S:Nat->Nat) (V:Nat->List Int) (r:Nat) (x:List Int):cU S (g_ V r x)=cN (cU S V) r fun b=>((x.getD (S b) 0:Int):Rat):=by
 funext a b;unfold cU g_ cN;split <;> rfl
theorem mH (n k:Nat) (S:Nat->Nat):mW n k (bp k S) where
 lin V r x y q hr hl:=by
  unfold bp;rw [y6_,y6_,y6_,<- nC _ hr];congr 1;funext a b;unfold cN;split
  ·simp only;rw [jS q hl.symm];rw [Rat.intCast_sub,Rat.intCast_mul];grind
  ·rfl
 zero V r hr:=by
  unfold bp;refine jl hr fun b _=>?_;rw [y6_];unfold cN;rw [if_pos rfl];simp only;have:(List.replicate n (0:Int)).getD (S b) 0=0:=(Sp.zero (n:=n) (S:=fun _=>False)).zeroCol (fun _ h=>h.elim) (fun _ h=>h.elim);rw [this];rfl
 eq V i j hi hj hne h:=by
  unfold bp;exact nB hi hj hne fun b _=>by unfold cU;rw [h]
 swap V i j qK hj:=K5_ (cU S V) qK hj
 ext V W h:=dP fun a b ha _=>by unfold cU;rw [h a ha]
structure iA (Q:Rat->Prop):Prop where
 zero:Q 0
 add:∀ x y (q:Int),Q x->Q y->Q (x+(-(q:Rat))*y)
theorem iA.neg {Q:Rat->Prop} (h:iA Q) {x:Rat} (hx:Q x):Q (-x):=by
 have:=h.add 0 x 1 h.zero hx;have e:(0:Rat)+-((1:Int):Rat)*x=-x:=by grind
 rw [e] at this;exact this
theorem Z53 {n k:Nat} {G:(Nat->List Int)->Rat} {Q:Rat->Prop} (hG:mW n k G) (hQ:iA Q) {T:List Int->Prop} (hT:mV n T) (V:Nat->List Int) {r:Nat} (hr:r<k) (h:∀ x,T x->Q (G (g_ V r x))) {v:List Int} (hv:Sp n T v):Q (G (g_ V r v)):=by
 induction hv with
 | zero=>rw [hG.zero V r hr];exact hQ.zero
 | mem hx=>exact h _ hx
 | less q a b iha ihb=>rw [hG.lin V r _ _ q hr (by rw [a.len hT,b.len hT])];exact hQ.add _ _ q iha ihb
theorem B6_ {n k:Nat} {G:(Nat->List Int)->Rat} {Q:Rat->Prop} (hG:mW n k G) (hQ:iA Q) {T:List Int->Prop} (hT:mV n T) (h:∀ V,(∀ a,a<k->T (V a))->Q (G V)) :
  ∀ j,j<=k->∀ V,(∀ a,a<j->Sp n T (V a))->(∀ a,j<=a->a<k->T (V a))->Q (G V)
 | 0,_,V,_,h2=>h V fun a ha=>h2 a (Nat.zero_le _) ha
 | j+1,hj,V,h1,h2=>by
  rw [<- Z37 V j];refine Z53 hG hQ hT V (by omega) (fun x hx=>?_) (h1 j (by omega));refine B6_ hG hQ hT h j (by omega) (g_ V j x) (fun a ha=>?_) fun a ha qy=>?_
  ·unfold g_;rw [if_neg (by omega)];exact h1 a (by omega)
  ·unfold g_;split
   ·exact hx
   ·exact h2 a (by omega) qy
theorem Z2n:∀ (k:Nat) (f:Nat->Nat),(∀ a,a<=k->f a<k)->∃ a b,a<b/\b<=k/\f a=f b
 | 0,f,h=>by have:=h 0 (oJ _);omega
 | k+1,f,h=>by
  by_cases hex:∃ a,a<=k/\f a=f (k+1)
  ·obtain ⟨a,h1,h2⟩:=hex;exact ⟨a,k+1,by omega,oJ _,h2⟩
  ·have hne:∀ a,a<=k->f a≠f (k+1):=fun a ha he=>hex ⟨a,ha,he⟩;have hv:=h (k+1) (oJ _)
   obtain ⟨a,b,h1,h2,h3⟩:=Z2n k (fun a=>if f a=k then f (k+1) else f a) (fun a ha=>by
    have h1:=h a (by omega);have h2:=hne a ha
    split <;> omega)
   refine ⟨a,b,h1,by omega,?_⟩;have ha:=hne a (by omega);have hb:=hne b h2
   split at h3 <;> split at h3 <;> omega
theorem B7_ {n k:Nat} {G:(Nat->List Int)->Rat} {Q:Rat->Prop} (hG:mW n k G) (hQ:iA Q) (R:Nat->List Int) (h:Q (G R)) :
  ∀ (j r:Nat),k-r=j->r<=k->∀ f:Nat->Nat,(∀ a,a<k->f a<k)->(∀ a,a<r->f a=a)->Q (G fun a=>R (f a))
 | 0,r,hj,hr,f,h1,h2=>by
  rw [hG.ext _ R fun a ha=>by rw [h2 a (by omega)]];exact h
 | j+1,r,hj,hr,f,h1,h2=>by
  by_cases hex:∃ a,r<=a/\a<k/\f a=r
  ·obtain ⟨a,a1,a2,a3⟩:=hex;by_cases Bj:a=r
   ·exact B7_ hG hQ R h j (r+1) (by omega) (by omega) f h1 fun b hb=>by
     by_cases vM:b=r
     ·rw [vM,<- Bj,a3,Bj]
     ·exact h2 b (by omega)
   ·have:=B7_ hG hQ R h j (r+1) (by omega) (by omega) (fun b=>f (aV r a b)) (fun b hb=>h1 _ (by unfold aV;split;omega;split <;> omega)) fun b hb=>by
     unfold aV;by_cases vM:b=r
     ·rw [if_pos vM,a3,vM]
     ·rw [if_neg vM,if_neg (by omega)];exact h2 b (by omega)
    have e:=hG.swap (fun b=>R (f b)) r a (by omega) a2;have e2:(fun b=>R (f (aV r a b)))=fun b=>(fun b=>R (f b)) (aV r a b):=rfl;rw [e2,e] at this;have:=hQ.neg this;rw [Rat.neg_neg] at this;exact this
  ·
   obtain ⟨k',rfl⟩:∃ k',k=k'+1:=⟨k-1,by omega⟩;have hne:∀ a,a<=k'->f a≠r:=fun a ha he=>by
    by_cases Bj:a<r
    ·rw [h2 a Bj] at he;omega
    ·exact hex ⟨a,by omega,by omega,he⟩
   obtain ⟨a,b,q1,q2,q3⟩:=Z2n k' (fun a=>if f a=k' then r else f a) (fun a ha=>by
    have g1:=h1 a (by omega);have g2:=hne a ha
    split <;> omega)
   have ha:=hne a (by omega);have hb:=hne b q2;have qF:f a=f b:=by
    split at q3 <;> split at q3 <;> omega
   rw [hG.eq (fun a=>R (f a)) a b (by omega) (by omega) (by omega) (by rw [qF])];exact hQ.zero
theorem Z10 {n:Nat} {G:(Nat->List Int)->Rat} {Q:Rat->Prop} {R:List (List Int)} (hG:mW n R.length G) (hQ:iA Q) (hW:bS n R) (h:Q (G (aG R))) (V:Nat->List Int) (hV:∀ a,a<R.length->Sp n (bD 0 R) (V a)):Q (G V):=by
 refine B6_ hG hQ (fH hW) (fun V hV=>?_) R.length (oJ _) V hV fun a h1 h2=>by omega
 have hf:∃ f:Nat->Nat,∀ a,a<R.length->f a<R.length/\aG R (f a)=V a:=by
  refine ⟨fun a=>if h:a<R.length then Classical.choose (hV a h) else 0,fun a ha=>?_⟩;simp only [dif_pos ha];exact (Classical.choose_spec (hV a ha)).2
 obtain ⟨f,hf⟩:=hf;rw [hG.ext V (fun a=>aG R (f a)) fun a ha=>(hf a ha).2.symm];exact B7_ hG hQ (aG R) h _ 0 rfl (Nat.zero_le _) f (fun a ha=>(hf a ha).1) fun a ha=>by omega
theorem Z2V {B:Nat} {f:Nat->Rat}:∀ {n:Nat},(∀ i,i<n->∃ z:Int,f i=(z:Rat)/\z.natAbs<=B)->∃ z:Int,aQ n f=(z:Rat)/\z.natAbs<=n*B
 | 0,_=>⟨0,rfl,by omega⟩
 | n+1,h=>by
  obtain ⟨z,h1,h2⟩:=Z2V fun i (hi:i<n)=>h i (by omega);obtain ⟨y,h3,h4⟩:=h n (by omega);refine ⟨z+y,?_,?_⟩
  ·show aQ n f+f n=_;rw [h1,h3,Rat.intCast_add]
  ·rw [Nat.add_mul];omega
def fW (R:List (List Int)) (ps:Nat->Nat):Nat->Int
 | 0=>1
 | j+1=>aF R j (ps j)*fW R ps j
theorem I8_ {n:Nat} {R:List (List Int)} {ps:Nat->Nat} (hR:iD n R ps):∀ j,j<=R.length->0<fW R ps j/\∀ i,i<j->aF R i (ps i)<=fW R ps j
 | 0,_=>⟨by unfold fW;decide,fun i hi=>by omega⟩
 | j+1,hj=>by
  obtain ⟨h1,h2⟩:=I8_ hR j (by omega);have hp:=hR.2.pos j (by omega);have e:fW R ps (j+1)=aF R j (ps j)*fW R ps j:=rfl;have a1:1*fW R ps j<=aF R j (ps j)*fW R ps j:=Int.mul_le_mul_of_nonneg_right (by omega) (by omega);have a2:aF R j (ps j)*1<=aF R j (ps j)*fW R ps j:=Int.mul_le_mul_of_nonneg_left (by omega) (by omega);rw [e];refine ⟨by omega,fun i hi=>?_⟩;by_cases qK:i=j
  ·rw [qK];omega
  ·have:=h2 i (by omega);omega
theorem j0_ {n:Nat} {R:List (List Int)} {ps:Nat->Nat} (hR:iD n R ps):∀ j,j<=R.length->bp j ps (aG R)=(fW R ps j:Rat)
 | 0,_=>rfl
 | j+1,hj=>by
  have ih:=j0_ hR j (by omega);unfold bp at ih |-;rw [<- eW,T5_,eW,ih]
  ·show _=((aF R j (ps j)*fW R ps j:Int):Rat);rw [Rat.intCast_mul];rfl
  ·intro a ha;show (((aG R j).getD (ps a) 0:Int):Rat)=0;have:(aG R j).getD (ps a) 0=0:=hR.2.zero j (by omega) (ps a) (hR.2.mono a j ha (by omega));rw [this];rfl
theorem g0_ {k:Nat} (M:Nat->Nat->Rat) (hz:∀ a b,b<a->a<k->M a b=0) (hd:∀ a,a<k->M a a≠0) (y:Nat->Rat):∀ j,j<=k->∃ x:Nat->Rat,∀ a,k-j<=a->a<k->y a=aQ k fun l=>x l*M a l
 | 0,_=>⟨fun _=>0,fun a h1 h2=>by omega⟩
 | j+1,hj=>by
  obtain ⟨x,hx⟩:=g0_ M hz hd y j (by omega);obtain ⟨r,hr⟩:∃ r,r=k-(j+1):=⟨_,rfl⟩;obtain ⟨q,hq⟩:∃ q,q=(y r-aQ k fun l=>if l=r then 0 else x l*M r l) / M r r:=⟨_,rfl⟩;refine ⟨fun l=>if l=r then q else x l,fun a h1 h2=>?_⟩;by_cases Bj:a=r
  ·rw [Bj];have hf:(aQ k fun l=>(if l=r then q else x l)*M r l)=aQ k fun l=>(if l=r then 0 else x l*M r l)+if l=r then q*M r r else 0:=by
    refine di fun l _=>?_;by_cases hl:l=r
    ·rw [if_pos hl,if_pos hl,if_pos hl,hl];grind
    ·rw [if_neg hl,if_neg hl,if_neg hl];grind
   rw [hf,nu,w8_ (k:=r) (by omega) (fun i _ hi=>if_neg hi),if_pos rfl,hq];have:=hd r (by omega);rw [Rat.div_mul_cancel this];grind
  ·rw [hx a (by omega) h2];refine di fun l _=>?_;show x l*M a l=(if l=r then q else x l)*M a l;by_cases hl:l=r
   ·rw [if_pos hl,hl,hz a r (by omega) h2];grind
   ·rw [if_neg hl]
theorem A5_:iA fun x=>x=0:=⟨rfl,fun x y q h h'=>by rw [h,h'];grind⟩
theorem Z54 (d:Rat):iA fun x=>∃ t:Int,x=(t:Rat)*d:=⟨⟨0,by grind⟩,fun x y q ⟨t,h⟩ ⟨u,h'⟩=>⟨t-q*u,by rw [h,h',Rat.intCast_sub,Rat.intCast_mul];grind⟩⟩
def Z6i (w:World) (v:Value) (n:Int) (xss:List (List Int)):Prop:=∃ u,v=.agg #[.int .i64 n,u]/\bQ w u xss
theorem Z6i.ext {w w':World} {v:Value} {n:Int} {xss:List (List Int)} (h:Z6i w v n xss) (he:aC w w'):Z6i w' v n xss:=by
 obtain ⟨u,h1,h2⟩:=h;exact ⟨u,h1,h2.ext he⟩
theorem l5_ (xss:List (List Int)) (v:Value) (n:Nat) (w:World) (h:bQ w v xss) (hE:bw xss=0) (hn:∀ r∈xss,r.length=n) :
  oW 39 #[v] w (.tuple #[.bool (ij xss),.int .i64 0]):=by
 have HT:=n8 (W6_ xss v w h);rw [hE] at HT;have HF:=n8 (fun W (hW:aC w W)=>Z09 xss v n W (h.ext hW) hn);obtain ⟨a,c,rfl,h1,h2,-,hc⟩:=bT.open h;clear h hE hn hc
 go_enter func39,ntmps39
 go_wp2_with fail;refine HT.mono ?_;rintro e w1 ⟨rfl,hE1⟩;have HE1:=n8 hE1;clear hE1 HT;go_wp2_with fail;refine (HF _ HE1).mono ?_;rintro e w2 ⟨rfl,oY⟩;have HE2:=n8 (aC.trans HE1 oY);clear oY HF;go_wp2_with fail;go_ret2;exact ⟨rfl,HE2⟩
theorem kV (n c:Nat):(List.replicate n (0:Int)).getD c 0=0:=by
 rw [oC];by_cases hc:c<n
 ·rw [n9 (by simpa using hc)];simp
 ·rw [oK (by simp;omega)];rfl
def cP (r s:List Int):Nat->Int
 | 0=>0
 | n+1=>cP r s n+r.getD n 0*s.getD n 0
theorem E6_ {r s r' s':List Int}:∀ n,(∀ i,i<n->r.getD i 0=r'.getD i 0/\s.getD i 0=s'.getD i 0)->cP r s n=cP r' s' n
 | 0,_=>rfl
 | n+1,h=>by unfold cP;rw [E6_ n fun i hi=>h i (by omega),(h n (by omega)).1,(h n (by omega)).2]
theorem K6_ (r:List Int) (k:Int) {x y:List Int} (hl:y.length=x.length):∀ n,cP r (an k x y) n=cP r x n-k*cP r y n
 | 0=>by unfold cP;omega
 | n+1=>by
  unfold cP;rw [K6_ r k hl n,jS k hl,Int.mul_sub,Int.mul_add];have e:r.getD n 0*(k*y.getD n 0)=k*(r.getD n 0*y.getD n 0):=by rw [<- Int.mul_assoc,Int.mul_comm (r.getD n 0) k,Int.mul_assoc]
  rw [e];omega
theorem K7_ (r:List Int) (m:Nat):∀ n,cP r (List.replicate m 0) n=0
 | 0=>rfl
 | n+1=>by unfold cP;rw [K7_ r m n,kV];simp
theorem n3_ (n c i:Nat) (hc:c<n):((List.replicate n (0:Int)).set c 1).getD i 0=if i=c then 1 else 0:=by
 rw [oC,oV];by_cases h:c=i
 ·subst h;rw [if_pos rfl,if_pos rfl,if_pos (by simpa using hc)];rfl
 ·rw [if_neg h,if_neg (fun e=>h e.symm),<- oC,kV]
theorem s1_ (r:List Int) (n c:Nat) (hc:c<n):∀ k,cP r ((List.replicate n (0:Int)).set c 1) k=if c<k then r.getD c 0 else 0
 | 0=>by rw [if_neg (by omega)];rfl
 | k+1=>by
  unfold cP;rw [s1_ r n c hc k,n3_ n c k hc];by_cases h:c<k
  ·rw [if_pos h,if_neg (by omega),if_pos (by omega)];simp
  ·by_cases h2:k=c
   ·rw [if_neg h,if_pos h2,if_pos (by omega),h2];simp
   ·rw [if_neg h,if_neg h2,if_neg (by omega)];simp
theorem T7_ (k:Nat) (w:List Int) (c:Nat):(w.drop k).getD c 0=w.getD (k+c) 0:=by
 rw [oC,oC,oT]
theorem mm {a b:List Int} {i:Nat} (h:i<a.length):(a++b).getD i 0=a.getD i 0:=by
 rw [oC,oC,oM h]
theorem v9_ {a b:List Int} {i:Nat} (h:a.length<=i):(a++b).getD i 0=b.getD (i-a.length) 0:=by
 rw [oC,oC,oN h]
theorem iT (n:Nat) (m:List (List Int)):(dj n m).length=n:=by unfold dj;simp
theorem n5 {n c:Nat} {m:List (List Int)} (hc:c<n):aG (dj n m) c=m.map (fun r=>r.getD c 0)++(List.replicate n (0:Int)).set c 1:=by
 apply gj;unfold dj;rw [oE,List.getElem?_range hc];rfl
theorem lT (n:Nat) (m:List (List Int)):bS (m.length+n) (dj n m):=fun c hc=>by
 rw [iT] at hc;rw [n5 hc];simp
theorem Z38 {n c i:Nat} {m:List (List Int)} (hc:c<n) (hi:i<m.length):(aG (dj n m) c).getD i 0=(aG m i).getD c 0:=by
 rw [n5 hc,mm (by simpa using hi),oC,oE,gH hi];rfl
theorem O4_ {n c j:Nat} {m:List (List Int)} (hc:c<n):(aG (dj n m) c).getD (m.length+j) 0=if j=c then 1 else 0:=by
 rw [n5 hc,v9_ (by simp),<- n3_ n c j hc];congr 1;simp
def Z51 (n:Nat) (m:List (List Int)) (w:List Int):Prop:=w.length=m.length+n/\∀ i,i<m.length->w.getD i 0=cP (aG m i) (w.drop m.length) n
theorem Q9_ (q:Int):∀ (k:Nat) (x y:List Int),(an q x y).drop k=an q (x.drop k) (y.drop k)
 | 0,x,y=>rfl
 | k+1,[],[]=>by simp [an]
 | k+1,[],_::_=>by simp [an];cases (List.drop k ‹List Int›) <;> rfl
 | k+1,a::x,[]=>by
  have h:∀ z:List Int,an q z []=z:=fun z=>by cases z <;> rfl
  simp only [List.drop_nil,h]
 | k+1,a::x,b::y=>by
  show (an q x y).drop k=_;rw [Q9_ q k x y];rfl
theorem Z39 {n:Nat} {m:List (List Int)} {w:List Int} (h:Sp (m.length+n) (bD 0 (dj n m)) w):Z51 n m w:=by
 have hl:=fH (d:=0) (lT n m)
 induction h with
 | zero =>
  refine ⟨by simp,fun i hi=>?_⟩;rw [kV,List.drop_replicate,K7_]
 | mem h =>
  obtain ⟨c,-,hc,rfl⟩:=h;have qj:c<n:=by rw [iT] at hc;exact hc
  refine ⟨lT n m c hc,fun i hi=>?_⟩;rw [Z38 qj hi,n5 qj,List.drop_left' (by simp),s1_ _ _ _ qj,if_pos qj]
 | less q a b iha ihb =>
  refine ⟨by rw [ir];exact iha.1,fun i hi=>?_⟩;rw [jS q (by rw [iha.1,ihb.1]),iha.2 i hi,ihb.2 i hi,Q9_,K6_ _ _ (by rw [List.length_drop,List.length_drop,iha.1,ihb.1])]
theorem Z5F {n:Nat} {m:List (List Int)} {w:List Int} (h:Z51 n m w):Sp (m.length+n) (bD 0 (dj n m)) w:=by
 have hl:=fH (d:=0) (lT n m);have key:∀ j,j<=n->∃ u,Sp (m.length+n) (bD 0 (dj n m)) u/\∀ c,u.getD (m.length+c) 0=if c<j then w.getD (m.length+c) 0 else 0:=by
  intro j
  induction j with
  | zero=>intro _;exact ⟨_,.zero,fun c=>by rw [if_neg (by omega),kV]⟩
  | succ j ih =>
   intro hj;obtain ⟨u,hu,E8⟩:=ih (by omega);have tT:bD 0 (dj n m) (aG (dj n m) j):=bf (Nat.zero_le _) (by rw [iT];omega);refine ⟨_,.less (-(w.getD (m.length+j) 0)) hu (.mem tT),fun c=>?_⟩;rw [jS _ (by rw [hu.len hl,hl _ tT]),E8 c,O4_ (by omega)];by_cases JK:c=j
   ·subst JK;rw [if_neg (by omega),if_pos rfl,if_pos (by omega)];omega
   ·rw [if_neg JK];by_cases h2:c<j
    ·rw [if_pos h2,if_pos (by omega)];simp
    ·rw [if_neg h2,if_neg (by omega)];simp
 obtain ⟨u,hu,E8⟩:=key n (oJ _);have hP:=Z39 hu;have hc:∀ c,c<n->u.getD (m.length+c) 0=w.getD (m.length+c) 0:=fun c hc=>by rw [E8 c,if_pos hc]
 have:u=w:=by
  refine f4_ (by rw [hP.1,h.1]) fun c=>?_;by_cases h1:c<m.length
  ·rw [hP.2 c h1,h.2 c h1];exact E6_ n fun i hi=>⟨rfl,by rw [T7_,T7_,hc i hi]⟩
  ·by_cases h2:c<m.length+n
   ·have:=hc (c-m.length) (by omega);rw [show m.length+(c-m.length)=c by omega] at this;exact this
   ·rw [oC,oC,oK (by rw [hP.1];omega),oK (by rw [h.1];omega)]
 rw [<- this];exact hu
def Ann (n:Nat) (m:List (List Int)) (v:List Int):Prop:=v.length=n/\∀ i,i<m.length->cP (aG m i) v n=0
theorem kW {h:List (List Int)} {k d i:Nat} (hi:d+i<h.length):aG ((h.drop d).map (·.drop k)) i=(aG h (d+i)).drop k:=by
 apply gj;rw [oE,oT,gH hi];rfl
theorem Z2O {h:List (List Int)} {n k d:Nat} {w:List Int} (hw:Sp (k+n) (bD d h) w):Sp n (bD 0 ((h.drop d).map (·.drop k))) (w.drop k):=by
 induction hw with
 | zero=>rw [List.drop_replicate,show k+n-k=n by omega];exact .zero
 | mem hm =>
  obtain ⟨i,h1,h2,rfl⟩:=hm;have:=kW (h:=h) (k:=k) (d:=d) (i:=i-d) (by omega);rw [show d+(i-d)=i by omega] at this;rw [<- this];exact .mem (bf (Nat.zero_le _) (by simp;omega))
 | less q a b iha ihb=>rw [Q9_];exact .less q iha ihb
theorem f3_ {h:List (List Int)} {N k d:Nat} {ps:Nat->Nat} (hw:bS N h) (hh:fo h d k ps) (hd:d<=h.length) {w:List Int} (hz:∀ c,c<k->w.getD c 0=0):∀ j,j<=d->Sp N (bD (d-j) h) w->Sp N (bD d h) w
 | 0,_,h9=>h9
 | j+1,hj,h9=>by
  have he:d-(j+1)<d:=by omega
  obtain ⟨t,ht⟩:=h9.peel hw (by omega)
  have h0:(an t w (aG h (d-(j+1)))).getD (ps (d-(j+1))) 0=0:=ht.zeroCol (fH hw) (by
   rintro r ⟨i,h1,h2,rfl⟩;by_cases hid:i<d
   ·exact hh.zero i hid _ (hh.mono _ i (by omega) hid)
   ·exact hh.rest i (by omega) h2 _ (hh.lt _ he))
  rw [jS t (by rw [h9.len (fH hw),hw _ (by omega)]),hz _ (hh.lt _ he)] at h0;have hne:aF h (d-(j+1)) (ps (d-(j+1)))≠0:=hh.ne _ he;have EN:t=0:=by
   have h1:t*aF h (d-(j+1)) (ps (d-(j+1)))=0:=by unfold aF;omega
   rcases Int.mul_eq_zero.1 h1 with h2 | h2
   ·exact h2
   ·exact absurd h2 hne
  rw [EN,jr,show d-(j+1)+1=d-j by omega] at ht;exact f3_ hw hh hd hz j (by omega) ht
theorem Z5j {h m:List (List Int)} {n d:Nat} {ps:Nat->Nat} (hw:bS (m.length+n) h) (hh:fo h d m.length ps) (hs:cH (m.length+n) (bD 0 (dj n m)) (bD 0 h)) (hd:d<=h.length) (v:List Int) :
  Sp n (bD 0 ((h.drop d).map (·.drop m.length))) v↔Ann n m v:=by
 have hlen:((h.drop d).map (·.drop m.length)).length=h.length-d:=by simp
 constructor
 ·intro hv
  induction hv with
  | zero=>exact ⟨by simp,fun i _=>K7_ _ _ _⟩
  | mem hm =>
   obtain ⟨i,-,hi,rfl⟩:=hm;have zR:d+i<h.length:=by rw [hlen] at hi;omega
   refine ⟨by rw [kW zR,List.length_drop,hw _ zR];omega,fun j hj=>?_⟩;have hP:=Z39 (hs.2 _ (bf (Nat.zero_le (d+i)) zR));rw [kW zR,<- hP.2 j hj];exact hh.rest (d+i) (by omega) zR j hj
  | less q a b iha ihb =>
   refine ⟨by rw [ir];exact iha.1,fun i hi=>?_⟩;rw [K6_ _ _ (by rw [iha.1,ihb.1]),iha.2 i hi,ihb.2 i hi];simp
 ·intro hv;have pZ:Z51 n m (List.replicate m.length 0++v):=by
   refine ⟨by rw [oU,List.length_replicate,hv.1],fun i hi=>?_⟩;rw [mm (by simpa using hi),kV,List.drop_left' (by simp),hv.2 i hi]
  have h3:=(hs.iff _).1 (Z5F pZ);have h4:=f3_ (w:=List.replicate m.length 0++v) hw hh hd (fun c hc=>by rw [mm (by simpa using hc),kV]) d (oJ _) (by rw [Nat.sub_self];exact h3);have h5:=Z2O h4;rw [List.drop_left' (by simp)] at h5;exact h5
theorem Z0R {h m:List (List Int)} {n:Nat} (hh:bS (m.length+n) h) (hs:cH (m.length+n) (bD 0 (dj n m)) (bD 0 h)):n<=h.length:=by
 refine Classical.byContradiction fun hlt=>?_;have hlt:h.length<n:=by omega
 obtain ⟨R,hR⟩:∃ R,R=h++List.replicate (n-h.length) (List.replicate (m.length+n) (0:Int)):=⟨_,rfl⟩;have Ej:R.length=n:=by rw [hR];simp;omega
 have vn:∀ i,i<h.length->aG R i=aG h i:=fun i hi=>by
  apply gj;rw [hR,oM hi];exact gH hi
 have hR2:∀ i,h.length<=i->i<n->aG R i=List.replicate (m.length+n) 0:=fun i hi hn=>by
  apply gj;rw [hR,oN hi,List.getElem?_replicate,if_pos (by omega)]
 have hW:bS (m.length+n) R:=fun i hi=>by
  by_cases h1:i<h.length
  ·rw [vn i h1];exact hh i h1
  ·rw [hR2 i (by omega) (by omega)];simp
 have h0:bp R.length (fun b=>m.length+b) (aG R)=0:=by
  unfold bp;refine jl (r:=h.length) (by omega) fun b _=>?_;show (((aG R h.length).getD (m.length+b) 0:Int):Rat)=0;rw [hR2 _ (oJ _) hlt,kV];rfl
 have h1:=Z10 (Q:=fun x=>x=0) (mH (m.length+n) R.length fun b=>m.length+b) A5_ hW h0 (aG (dj n m)) fun a ha=>by
  have:=hs.1 _ (bf (Nat.zero_le a) (by rw [iT];omega));refine this.mono fun r hr=>?_;obtain ⟨i,-,hi,rfl⟩:=hr;rw [<- vn i hi];exact .mem (bf (Nat.zero_le _) (by omega))
 have h2:bp R.length (fun b=>m.length+b) (aG (dj n m))=1:=by
  rw [<- A7_ R.length];unfold bp;refine dP fun a b ha hb=>?_;show (((aG (dj n m) a).getD (m.length+b) 0:Int):Rat)=_;rw [O4_ (by omega)];by_cases qF:a=b
  ·rw [if_pos qF.symm,if_pos qF];rfl
  ·rw [if_neg (fun e=>qF e.symm),if_neg qF];rfl
 rw [h2] at h1;exact absurd h1 (by decide)
theorem r5_ (q:Int) (a b:List Int):∀ K,an q (List.replicate K 0++a) (List.replicate K 0++b)=List.replicate K 0++an q a b
 | 0=>rfl
 | K+1=>by
  rw [List.replicate_succ,List.cons_append,List.cons_append,List.cons_append,<- r5_ q a b K];show (0-q*0)::_=_;simp
theorem Z4Z {n K:Nat} {S S':List Int->Prop} (h:∀ v,S v->Sp (K+n) S' (List.replicate K 0++v)) {v:List Int} (hv:Sp n S v):Sp (K+n) S' (List.replicate K 0++v):=by
 induction hv with
 | zero=>rw [List.replicate_append_replicate];exact .zero
 | mem hm=>exact h _ hm
 | less q a b iha ihb=>rw [<- r5_];exact .less q iha ihb
theorem Z5C {r:List Int} {K n:Nat} (hl:r.length=K+n) (hz:∀ c,c<K->r.getD c 0=0):List.replicate K 0++r.drop K=r:=by
 refine f4_ (by rw [oU,List.length_replicate,List.length_drop];omega) fun c=>?_;by_cases h:c<K
 ·rw [mm (by simpa using h),kV,hz c h]
 ·rw [v9_ (by simp;omega),T7_,List.length_replicate];congr 1;omega
def fQ (n k:Nat) (X:List Int):List (List Int):=(bG n k).map fun s=>(List.range n).map fun i=>cn n k X i s
theorem S4_ (n k:Nat) (X:List Int):cE n k X=dj n (fQ n k X):=by
 unfold cE dj gF fQ cW;refine List.map_congr_left fun i hi=>?_;rw [List.mem_range] at hi;congr 1;rw [List.map_map];refine List.map_congr_left fun s _=>?_;show _=((List.range n).map fun i=>cn n k X i s).getD i 0;rw [oC,oE,List.getElem?_range hi];rfl
theorem z9_ (n k:Nat) (X:List Int):(fQ n k X).length=(bG n k).length:=by unfold fQ;rw [List.length_map]
theorem l6_ {n k e:Nat} {X:List Int} (hX:∀ x∈X,x.natAbs<=10^e):∀ i,i<(cE n k X).length->cw (10^e) (aG (cE n k X) i):=by
 intro i hi;have hM:=S4_ n k X;have hcell:∀ r∈fQ n k X,∀ x∈r,x.natAbs<=10^e:=by
  intro r hr x hx;unfold fQ at hr;obtain ⟨s,-,rfl⟩:=List.mem_map.1 hr;obtain ⟨i,-,rfl⟩:=List.mem_map.1 hx;show (cn n k X i s).natAbs<=_;unfold cn
  split
  ·rw [mQ];exact eA.getD (N:=10^e) hX _
  ·simp
 rw [hM] at hi |-;rw [iT] at hi;rw [n5 hi];intro x hx;have hp:1<=10^e:=Nat.pow_pos (by decide);rcases List.mem_append.1 hx with h | h
 ·obtain ⟨r,hr,rfl⟩:=List.mem_map.1 h;rw [oC];cases hc:r[i]? with
  | none=>simp
  | some y=>exact hcell r hr y (oD hc)
 ·rcases List.mem_or_eq_of_mem_set h with h | h
  ·rw [List.eq_of_mem_replicate h];simp
  ·rw [h];simpa using hp
structure Z6I (n k e:Nat) (X:List Int) (R:List (List Int)):Prop where
 le:R.length<=n
 wid:bS n R
 bnd:∀ i,i<R.length->cw (10^e) (aG R i)
 ann:∀ v,Sp n (bD 0 R) v↔Ann n (fQ n k X) v
 free:∀ T:List (List Int),bS n T->cH n (bD 0 R) (bD 0 T)->R.length<=T.length
theorem Z5k {n k e F:Nat} {X:List Int} (hX:∀ x∈X,x.natAbs<=10^e) (hF:10^eN e (bG n k).length<F) (hE:eN e ((bG n k).length+1)+1<=400000000):∃ R,ei F n k X=some R/\Z6I n k (eN e (bG n k).length) X R:=by
 have hM:=S4_ n k X;have hl:=z9_ n k X;obtain ⟨K,hK⟩:∃ K,(bG n k).length=K:=⟨_,rfl⟩;obtain ⟨M,sB⟩:∃ M,fQ n k X=M:=⟨_,rfl⟩;rw [sB] at hM hl;have hw:bS (K+n) (cE n k X):=by rw [hM,<- hK,<- hl];exact lT n M
 have hb:∀ i,i<(cE n k X).length->cw (10^e) (aG (cE n k X) i):=l6_ hX;rw [hK] at hF hE |-;obtain ⟨m',d,ps,e1,k1⟩:=V2_ (N:=K+n) (F:=F) hw hb K hE hF;have hsp:=k1.sp;rw [hM] at hsp;have zN:m'.length=n:=by rw [k1.len,hM,iT]
 have MO:K=M.length:=by rw [hl,hK]
 subst MO;refine ⟨(m'.drop d).map (·.drop M.length),by unfold ei;rw [hK,e1],?_⟩;have hlen:((m'.drop d).map (·.drop M.length)).length=m'.length-d:=by simp
 refine ⟨by rw [hlen];omega,fun i hi=>?_,fun i hi=>?_,fun v=>?_,fun T hT Is=>?_⟩
 ·rw [hlen] at hi;rw [kW (by omega),List.length_drop,k1.wid _ (by omega)];omega
 ·rw [hlen] at hi;rw [kW (by omega)];intro x hx;exact k1.bnd (d+i) (by omega) x (List.mem_of_mem_drop hx)
 ·rw [sB];exact Z5j k1.wid k1.ech hsp k1.le v
 ·refine Classical.byContradiction fun hlt=>?_;have hlt2:T.length<m'.length-d:=by rw [hlen] at hlt;omega
  obtain ⟨h,hh⟩:∃ h,h=m'.take d++T.map (List.replicate M.length (0:Int)++·):=⟨_,rfl⟩;have hhl:h.length=d+T.length:=by rw [hh,oU,oF,List.length_map];have:=k1.le;omega
  have qU:∀ i,i<d->aG h i=aG m' i:=fun i hi=>by
   apply gj;rw [hh,oM (by rw [oF];have:=k1.le;omega),List.getElem?_take,if_pos hi];exact gH (by have:=k1.le;omega)
  have ph:∀ i,i<T.length->aG h (d+i)=List.replicate M.length 0++aG T i:=fun i hi=>by
   apply gj;have htl:(m'.take d).length=d:=by rw [oF];have:=k1.le;omega
   rw [hh,oN (by rw [htl];omega),htl,show d+i-d=i by omega,oE,gH hi];rfl
  have ME:bS (M.length+n) h:=fun i hi=>by
   by_cases h1:i<d
   ·rw [qU i h1];exact k1.wid i (by have:=k1.le;omega)
   ·have:=ph (i-d) (by omega);rw [show d+(i-d)=i by omega] at this;rw [this,oU,List.length_replicate,hT _ (by omega)]
  have Ci:∀ i,d<=i->i<m'.length->List.replicate M.length 0++(aG m' i).drop M.length=aG m' i:=fun i h1 h2=>Z5C (k1.wid i h2) fun c hc=>k1.ech.rest i h1 h2 c hc;have hsm:cH (M.length+n) (bD 0 m') (bD 0 h):=by
   constructor
   ·rintro r ⟨i,-,h2,rfl⟩;by_cases h1:i<d
    ·rw [<- qU i h1];exact .mem (bf (Nat.zero_le _) (by omega))
    ·rw [<- Ci i (by omega) h2];have tT:bD 0 ((m'.drop d).map (·.drop M.length)) ((aG m' i).drop M.length):=by
      have:=kW (h:=m') (k:=M.length) (d:=d) (i:=i-d) (by omega);rw [show d+(i-d)=i by omega] at this;rw [<- this];exact bf (Nat.zero_le _) (by rw [hlen];omega)
     refine Z4Z (S:=bD 0 T) ?_ (Is.1 _ tT);rintro v ⟨j,-,hj,rfl⟩;rw [<- ph j hj];exact .mem (bf (Nat.zero_le _) (by omega))
   ·rintro r ⟨i,-,h2,rfl⟩;by_cases h1:i<d
    ·rw [qU i h1];exact .mem (bf (Nat.zero_le _) (by have:=k1.le;omega))
    ·have h3:=ph (i-d) (by omega);rw [show d+(i-d)=i by omega] at h3;rw [h3];refine Z4Z (S:=bD 0 ((m'.drop d).map (·.drop M.length))) ?_ (Is.2 _ (bf (Nat.zero_le _) (by omega)));rintro v ⟨j,-,hj,rfl⟩;rw [hlen] at hj;rw [kW (by omega),Ci (d+j) (by omega) (by omega)];exact .mem (bf (Nat.zero_le _) (by omega))
  have:=Z0R ME (hsp.trans hsm);omega
theorem f1_ {r s:List Int} {p:Nat}:∀ n,p<n->(∀ c,c<n->c≠p->r.getD c 0*s.getD c 0=0)->cP r s n=r.getD p 0*s.getD p 0
 | 0,h,_=>by omega
 | n+1,h,hz=>by
  have hall:∀ m,m<=n->(∀ c,c<m->r.getD c 0*s.getD c 0=0)->cP r s m=0:=by
   intro m
   induction m with
   | zero=>intro _ _;rfl
   | succ m ih=>intro h1 h2;rw [cP,ih (by omega) fun c hc=>h2 c (by omega),h2 m (by omega)];rfl
  rw [cP];by_cases e:p=n
  ·subst e;rw [hall p (oJ _) fun c hc=>hz c (by omega) (by omega)];omega
  ·rw [f1_ n (by omega) fun c h1 h2=>hz c (by omega) h2,hz n (by omega) (fun h=>e h.symm)];omega
def Z5O (J p:Nat):Bool:=J.testBit p || (decide ((J ||| (1 <<< p)) ^^^ (1 <<< p)=J) && (J ||| (1 <<< p)).testBit p && (List.range 6).all fun c=>decide (c=p) || (((J ||| (1 <<< p)).testBit c == J.testBit c) && (decide (c<=p) || !J.testBit c || decide ((J ||| (1 <<< p)) ^^^ (1 <<< c)<J))))
theorem Z16:(List.range 64).all (fun J=>(List.range 6).all (Z5O J))=true:=by decide +kernel
theorem Z3f {J p:Nat} (hJ:J<64) (hp:p<6) (h:J.testBit p=false):(J ||| (1 <<< p)) ^^^ (1 <<< p)=J/\(J ||| (1 <<< p)).testBit p=true/\∀ c,c<6->c≠p->(J ||| (1 <<< p)).testBit c=J.testBit c/\(p<c->J.testBit c=true->(J ||| (1 <<< p)) ^^^ (1 <<< c)<J):=by
 have h1:=List.all_eq_true.1 (List.all_eq_true.1 Z16 J (List.mem_range.2 hJ)) p (List.mem_range.2 hp);unfold Z5O at h1;rw [h,Bool.false_or,Bool.and_eq_true,Bool.and_eq_true,decide_eq_true_eq] at h1;refine ⟨h1.1.1,h1.1.2,fun c hc AW=>?_⟩;have h2:=List.all_eq_true.1 h1.2 c (List.mem_range.2 hc);rw [oR AW,Bool.false_or,Bool.and_eq_true,beq_iff_eq,Bool.or_eq_true,Bool.or_eq_true,decide_eq_true_eq,decide_eq_true_eq] at h2;refine ⟨h2.1,fun h3 h4=>?_⟩;rcases h2.2 with (h5 | h5) | h5
 ·omega
 ·rw [h4] at h5;cases h5
 ·exact h5
def Z6v (n k:Nat):Bool:=(aJ n (k+1)).all fun s=>(List.range n).all fun c=>!s.testBit c || decide ((s ^^^ (1 <<< c))∈aJ n k)
theorem Z1X:∀ n,n<7->∀ k,k<n->Z6v n k=true:=by decide +kernel
theorem y1_ {n k s c:Nat} (hn:n<7) (hk:k<n) (hs:s∈aJ n (k+1)) (hc:c<n) (h:s.testBit c=true):(s ^^^ (1 <<< c))∈aJ n k:=by
 have h1:=List.all_eq_true.1 (List.all_eq_true.1 (Z1X n hn k hk) s hs) c (List.mem_range.2 hc);rw [h,Bool.not_true,Bool.false_or,decide_eq_true_eq] at h1;exact h1
def Z6w (n k:Nat):Bool:=(aJ n k).all fun s=>(List.range n).all fun i=>s.testBit i || decide ((s ||| (1 <<< i))∈aJ n (k+1))
theorem Z2b:∀ n,n<7->∀ k,k<n->Z6w n k=true:=by decide +kernel
theorem e8_ {n k s i:Nat} (hn:n<7) (hk:k<n) (hs:s∈aJ n k) (hi:i<n) (hb:s.testBit i=false):(s ||| (1 <<< i))∈aJ n (k+1):=by
 have h:=List.all_eq_true.1 (List.all_eq_true.1 (Z2b n hn k hk) s hs) i (List.mem_range.2 hi);rw [hb,Bool.false_or,decide_eq_true_eq] at h;exact h
theorem Z3z:∀ n,n<7->∀ s∈aJ n n,∀ c,c<n->s.testBit c=true:=by decide +kernel
theorem e5_:∀ n,n<7->∀ k,k<n+1->∀ s∈aJ n k,s<64:=by decide +kernel
def ft (n k:Nat) (Y:List Int) (t:Nat):Int:=Y.getD (be n k t) 0
theorem c3_ {x:Int} {o:Bool}:bu x o=0↔x=0:=by cases o <;> simp [bu]
theorem Z2p {n k:Nat} (hn:n<7) (hk:k<=n) {l:List (List Int)} {ps:Nat->Nat} {Y:List Int} (hlt:∀ i,i<k->ps i<n) (hz:∀ i,i<k->∀ c,c<ps i->aF l i c=0) (hne:∀ i,i<k->aF l i (ps i)≠0)
  (hP:∀ J∈aJ n k,(∀ i,i<k->J.testBit (ps i)=true)->ft n k Y J=0) (hm:∀ i,i<k->∀ r∈fQ n k Y,cP r (aG l i) n=0):∀ (b J:Nat),J<b->J∈aJ n k->ft n k Y J=0
 | 0,J,h,_=>by omega
 | b+1,J,hJ,El=>by
  by_cases hall:∀ i,i<k->J.testBit (ps i)=true
  ·exact hP J El hall
  ·obtain ⟨i,hi⟩:=Classical.not_forall.1 hall;obtain ⟨hik,hb⟩:=Classical.not_imp.1 hi;have hb:J.testBit (ps i)=false:=by simpa using hb
   have hp:=hlt i hik;have hkn:k<n:=by
    refine Classical.byContradiction fun hkn=>?_;obtain rfl:k=n:=by omega
    rw [Z3z k hn J El (ps i) hp] at hb;cases hb
   have h64:=e5_ n hn k (by omega) J El;obtain ⟨b1,b2,b3⟩:=Z3f h64 (show ps i<6 by omega) hb;have hs:(J ||| (1 <<< ps i))∈aJ n (k+1):=e8_ hn hkn El hp hb;obtain ⟨s,LA⟩:∃ s,J ||| (1 <<< ps i)=s:=⟨_,rfl⟩;rw [LA] at hs b1 b2 b3;have Fs:(List.range n).map (fun c=>cn n k Y c s)∈fQ n k Y:=by
    unfold fQ bG;rw [if_neg (by omega)];exact List.mem_map.2 ⟨s,hs,rfl⟩
   have hrow:∀ c,c<n->((List.range n).map (fun c=>cn n k Y c s)).getD c 0=cn n k Y c s:=fun c hc=>by
    rw [oC,oE,List.getElem?_range hc];rfl
   have h0:=hm i hik _ Fs;rw [f1_ n hp ?z] at h0
   case z =>
    intro c hc AW;rw [hrow c hc];obtain ⟨b4,b5⟩:=b3 c (by omega) AW;by_cases zB:s.testBit c=true
    ·by_cases hcl:c<ps i
     ·have:(aG l i).getD c 0=0:=hz i hik c hcl;rw [this];simp
     ·have h9:=Z2p hn hk hlt hz hne hP hm b (s ^^^ (1 <<< c)) (by have:=b5 (by omega) (by rw [<- b4];exact zB);omega) (y1_ hn hkn hs hc zB);rw [kM zB];unfold ft at h9;rw [c3_.2 h9];simp
    ·rw [lG (by simpa using zB)];simp
   rw [hrow _ hp,kM b2,b1] at h0;rcases Int.mul_eq_zero.1 h0 with h | h
   ·exact c3_.1 h
   ·exact absurd h (hne i hik)
theorem L5_ {f:Nat->Rat} {S:Nat->Nat}:∀ (n m:Nat),(∀ j,j<m->S j<n)->(∀ i j,i<j->j<m->S i<S j)->(∀ c,c<n->(∀ j,j<m->S j≠c)->f c=0)->aQ n f=aQ m fun j=>f (S j)
 | 0,0,_,_,_=>rfl
 | 0,m+1,h,_,_=>by have:=h 0 (by omega);omega
 | n+1,0,_,_,hz=>by
  show aQ n f+f n=0;rw [hz n (by omega) (fun j hj=>by omega),L5_ (S:=S) n 0 (fun j hj=>by omega) (fun i j _ hj=>by omega) (fun c hc h=>hz c (by omega) h)];show (0:Rat)+0=0;grind
 | n+1,m+1,hl,hi,hz=>by
  by_cases e:S m=n
  ·show aQ n f+f n=aQ m _+f (S m)
   rw [e,L5_ (S:=S) n m (fun j hj=>by have:=hi j m hj (by omega);omega) (fun i j h1 h2=>hi i j h1 (by omega)) (fun c hc h=>hz c (by omega) fun j hj=>by
    by_cases ej:j=m
    ·subst ej;omega
    ·exact h j (by omega))]
  ·have hm:=hl m (by omega);have hlt:∀ j,j<m+1->S j<n:=fun j hj=>by
    by_cases ej:j=m
    ·subst ej;omega
    ·have:=hi j m (by omega) (by omega);omega
   show aQ n f+f n=_;rw [hz n (by omega) (fun j hj=>by have:=hlt j hj;omega),L5_ (S:=S) n (m+1) hlt hi (fun c hc h=>hz c (by omega) h)];grind
def Z6U (n k:Nat):Bool:=(aJ n (k+1)).all fun s=>decide ((aT s).length=k+1) && ((List.range (k+1)).all fun j=>decide ((aT s).getD j 0<n) && s.testBit ((aT s).getD j 0) && ((List.range j).all fun i=>decide ((aT s).getD i 0<(aT s).getD j 0)) && (cK (1 <<< (aT s).getD j 0) (s ^^^ (1 <<< (aT s).getD j 0)) == decide (j%2=1)) && (List.range k).all fun a=>decide ((aT (s ^^^ (1 <<< (aT s).getD j 0))).getD a 0=(aT s).getD (sk j a) 0))
 && (List.range n).all fun c=>!s.testBit c || (List.range (k+1)).any fun j=>decide ((aT s).getD j 0=c)
theorem Z3R:∀ n,n<7->∀ k,k<n->Z6U n k=true:=by decide +kernel
structure Z6Q (n k s:Nat):Prop where
 lt:∀ j,j<k+1->(aT s).getD j 0<n
 bit:∀ j,j<k+1->s.testBit ((aT s).getD j 0)=true
 inc:∀ i j,i<j->j<k+1->(aT s).getD i 0<(aT s).getD j 0
 odd:∀ j,j<k+1->cK (1 <<< (aT s).getD j 0) (s ^^^ (1 <<< (aT s).getD j 0))=decide (j%2=1)
 rest:∀ j,j<k+1->∀ a,a<k->(aT (s ^^^ (1 <<< (aT s).getD j 0))).getD a 0=(aT s).getD (sk j a) 0
 has:∀ c,c<n->s.testBit c=true->∃ j,j<k+1/\(aT s).getD j 0=c
theorem Z22 {n k s:Nat} (hn:n<7) (hk:k<n) (hs:s∈aJ n (k+1)):Z6Q n k s:=by
 have h:=List.all_eq_true.1 (Z3R n hn k hk) s hs;rw [Bool.and_eq_true,Bool.and_eq_true] at h;have h2:∀ j,j<k+1->_:=fun j hj=>List.all_eq_true.1 h.1.2 j (List.mem_range.2 hj);refine ⟨fun j hj=>?_,fun j hj=>?_,fun i j qK hj=>?_,fun j hj=>?_,fun j hj a ha=>?_,fun c hc hb=>?_⟩
 ·have:=h2 j hj;simp only [Bool.and_eq_true,decide_eq_true_eq] at this;exact this.1.1.1.1
 ·have:=h2 j hj;simp only [Bool.and_eq_true,decide_eq_true_eq] at this;exact this.1.1.1.2
 ·have:=h2 j hj;simp only [Bool.and_eq_true] at this;exact of_decide_eq_true (List.all_eq_true.1 this.1.1.2 i (List.mem_range.2 qK))
 ·have:=h2 j hj;simp only [Bool.and_eq_true,beq_iff_eq] at this;exact this.1.2
 ·have:=h2 j hj;simp only [Bool.and_eq_true] at this;exact of_decide_eq_true (List.all_eq_true.1 this.2 a (List.mem_range.2 ha))
 ·have:=List.all_eq_true.1 h.2 c (List.mem_range.2 hc);rw [hb,Bool.not_true,Bool.false_or,List.any_eq_true] at this;obtain ⟨j,hj,he⟩:=this;exact ⟨j,List.mem_range.1 hj,of_decide_eq_true he⟩
def qQ (l:List (List Int)) (k J:Nat):Rat:=bp k (fun b=>(aT J).getD b 0) (aG l)
theorem Z2a {n k s i:Nat} (l:List (List Int)) (hn:n<7) (hk:k<n) (hs:s∈aJ n (k+1)) (hi:i<k) :
  aQ n (fun c=>if s.testBit c=true then ((aF l i c:Int):Rat)*((if cK (1 <<< c) (s ^^^ (1 <<< c))=true then -1 else 1)*qQ l k (s ^^^ (1 <<< c))) else 0)=0:=by
 have hM:=Z22 hn hk hs;obtain ⟨S,hS⟩:∃ S:Nat->Nat,S=fun j=>(aT s).getD j 0:=⟨_,rfl⟩
 rw [L5_ (S:=S) n (k+1) (fun j hj=>by rw [hS];exact hM.lt j hj) (fun a b h1 h2=>by rw [hS];exact hM.inc a b h1 h2) (fun c hc h=>if_neg fun hb=>by
  obtain ⟨j,hj,he⟩:=hM.has c hc hb
  exact h j hj (by rw [hS];exact he))]
 have h0:aU (k+1) (fun a b=>if b=0 then ((aF l i (S a):Int):Rat) else ((aF l (b-1) (S a):Int):Rat))=0 :=
  X0_ (i:=0) (j:=i+1) (by omega) (by omega) (by omega) fun b _=>by rw [if_pos rfl,if_neg (by omega)];rfl
 have e:aU (k+1) (fun a b=>if b=0 then ((aF l i (S a):Int):Rat) else ((aF l (b-1) (S a):Int):Rat))=aQ (k+1) fun j=>de j*((aF l i (S j):Int):Rat)*aU k fun a b=>((aF l b (S (sk j a)):Int):Rat):=by
  show aQ (k+1) _=_;rfl
 rw [e] at h0;rw [<- h0];refine di fun j hj=>?_;have hb:s.testBit (S j)=true:=by rw [hS];exact hM.bit j hj
 have ho:cK (1 <<< S j) (s ^^^ (1 <<< S j))=decide (j%2=1):=by rw [hS];exact hM.odd j hj
 rw [if_pos hb,ho];have hq:qQ l k (s ^^^ (1 <<< S j))=aU k fun a b=>((aF l b (S (sk j a)):Int):Rat):=by
  unfold qQ bp;rw [<- eW k (cU _ _)];refine dP fun a b ha hb=>?_;unfold cU aF;have:=hM.rest j hj a ha;rw [hS];show (((aG l b).getD ((aT (s ^^^ 1 <<< (aT s).getD j 0)).getD a 0) 0:Int):Rat)=(((aG l b).getD ((aT s).getD (sk j a) 0) 0:Int):Rat);rw [this]
 rw [hq];unfold de;by_cases h2:j%2=0
 ·rw [if_pos h2,if_neg (by simp;omega)];grind
 ·rw [if_neg h2,if_pos (by simp;omega)];grind
theorem o7_ {f:Nat->Rat}:∀ {n:Nat},(∀ i,i<n->∃ z:Int,f i=(z:Rat))->∃ z:Int,aQ n f=(z:Rat)
 | 0,_=>⟨0,rfl⟩
 | n+1,h=>by
  obtain ⟨z,hz⟩:=o7_ (n:=n) fun i hi=>h i (by omega);obtain ⟨y,hy⟩:=h n (by omega);exact ⟨z+y,by rw [Rat.intCast_add,<- hz,<- hy];rfl⟩
theorem t9_:∀ (k:Nat) (m:Nat->Nat->Int),∃ z:Int,aU k (fun a b=>(m a b:Rat))=(z:Rat)
 | 0,_=>⟨1,rfl⟩
 | k+1,m=>o7_ fun i _=>by
  obtain ⟨z,hz⟩:=t9_ k fun a b=>m (sk i a) (b+1);refine ⟨(if i%2=0 then 1 else -1)*m i 0*z,?_⟩;show de i*(m i 0:Rat)*_=_;rw [hz,Rat.intCast_mul,Rat.intCast_mul];unfold de
  split <;> rfl
def qZ (l:List (List Int)) (k J:Nat):Int:=(qQ l k J).num
theorem Z4k (l:List (List Int)) (k J:Nat):((qZ l k J:Int):Rat)=qQ l k J:=by
 obtain ⟨z,hz⟩:=t9_ k fun a b=>(aG l a).getD ((aT J).getD b 0) 0;have:qQ l k J=(z:Rat):=hz;unfold qZ;rw [this];rfl
def Z6A (n k:Nat):Bool:=(List.range (aJ n k).length).all fun i=>decide (be n k ((aJ n k).getD i 0)=i)
theorem p1_:∀ n,n<7->∀ k,k<n+1->Z6A n k=true:=by decide +kernel
theorem p2_ {n k J:Nat} (hn:n<7) (hk:k<=n) (hJ:J∈aJ n k) (f:Nat->Int):((aJ n k).map f).getD (be n k J) 0=f J:=by
 obtain ⟨i,hi⟩:=List.getElem?_of_mem hJ;have hil:=(n_.1 hi).1;have h:=of_decide_eq_true (List.all_eq_true.1 (p1_ n hn k (by omega)) i (List.mem_range.2 hil));rw [oC,hi] at h;have h:be n k J=i:=h;rw [h,oC,oE,hi];rfl
def Z6Z (n k:Nat):Bool:=(aJ n k).all fun J=>(aJ n k).all fun P=>decide (J=P) || (List.range n).any fun c=>P.testBit c && !J.testBit c
theorem Z4z:∀ n,n<7->∀ k,k<n+1->Z6Z n k=true:=by decide +kernel
theorem Z6d {n k J P:Nat} (hn:n<7) (hk:k<=n) (hJ:J∈aJ n k) (hP:P∈aJ n k) (h:∀ c,c<n->P.testBit c=true->J.testBit c=true):J=P:=by
 have h1:=List.all_eq_true.1 (List.all_eq_true.1 (Z4z n hn k (by omega)) J hJ) P hP;rw [Bool.or_eq_true,decide_eq_true_eq,List.any_eq_true] at h1;rcases h1 with h1 | ⟨c,hc,h2⟩
 ·exact h1
 ·rw [Bool.and_eq_true] at h2;rw [h c (List.mem_range.1 hc) h2.1] at h2;exact absurd h2.2 (by decide)
def eZ (ps:Nat->Nat):Nat->Nat
 | 0=>0
 | j+1=>eZ ps j ||| (1 <<< ps j)
theorem nN {ps:Nat->Nat} {c:Nat}:∀ j,(eZ ps j).testBit c=true↔∃ i,i<j/\ps i=c
 | 0=>by unfold eZ;simp
 | j+1=>by
  unfold eZ;rw [Nat.testBit_or,Bool.or_eq_true,nN j,Nat.one_shiftLeft,Nat.testBit_two_pow];constructor
  ·rintro (⟨i,h1,h2⟩ | h)
   ·exact ⟨i,by omega,h2⟩
   ·exact ⟨j,by omega,by simpa using h⟩
  ·rintro ⟨i,h1,h2⟩;by_cases e:i=j
   ·subst e;right;simpa using h2
   ·left;exact ⟨i,by omega,h2⟩
theorem l_ {n k:Nat} {ps:Nat->Nat} (hn:n<7) (hk:k<=n) (hlt:∀ i,i<k->ps i<n) (va:∀ i j,i<j->j<k->ps i<ps j):∀ j,j<=k->eZ ps j∈aJ n j
 | 0,_=>by rw [Z1F hn];exact List.mem_singleton.2 rfl
 | j+1,hj=>by
  refine e8_ hn (by omega) (l_ hn hk hlt va j (by omega)) (hlt j (by omega)) ?_;rw [Bool.eq_false_iff];intro e;obtain ⟨i,h1,h2⟩:=(nN j).1 e;have:=va i j h1 (by omega);omega
theorem f0_ {r r1 r2 s:List Int} {a b:Int}:∀ n,(∀ c,c<n->r.getD c 0=a*r1.getD c 0-b*r2.getD c 0)->cP r s n=a*cP r1 s n-b*cP r2 s n
 | 0,_=>by simp [cP]
 | n+1,h=>by
  rw [cP,cP,cP,f0_ n (fun c hc=>h c (by omega)),h n (by omega)];grind
theorem f2_ {r s:List Int}:∀ n,((cP r s n:Int):Rat)=aQ n fun c=>((s.getD c 0:Int):Rat)*((r.getD c 0:Int):Rat)
 | 0=>rfl
 | n+1=>by
  rw [cP,Rat.intCast_add,f2_ n,Rat.intCast_mul,Rat.mul_comm];rfl
theorem Z5y {n k:Nat} (hn:n<7) (hk:k<=n) {l:List (List Int)} {ps:Nat->Nat} {X:List Int} (hlt:∀ i,i<k->ps i<n) (va:∀ i j,i<j->j<k->ps i<ps j) (hz:∀ i,i<k->∀ c,c<ps i->aF l i c=0) (hne:∀ i,i<k->aF l i (ps i)≠0)
  (hA:∀ i,i<k->∀ r∈fQ n k X,cP r (aG l i) n=0):∀ J∈aJ n k,ft n k X (eZ ps k)*qZ l k J=qZ l k (eZ ps k)*ft n k X J:=by
 obtain ⟨P,Gp⟩:∃ P,eZ ps k=P:=⟨_,rfl⟩;have MJ:P∈aJ n k:=by rw [<- Gp];exact l_ hn hk hlt va k (oJ _)
 obtain ⟨a,ha⟩:∃ a,ft n k X P=a:=⟨_,rfl⟩;obtain ⟨b,hb⟩:∃ b,qZ l k P=b:=⟨_,rfl⟩;obtain ⟨Y,hY⟩:∃ Y,Y=(aJ n k).map fun J=>a*qZ l k J-b*ft n k X J:=⟨_,rfl⟩;have Ga:∀ J∈aJ n k,ft n k Y J=a*qZ l k J-b*ft n k X J:=fun J hJ=>by
  unfold ft;rw [hY];exact p2_ hn hk hJ _
 rw [Gp,ha,hb]
 have hall:=Z2p hn hk (l:=l) (ps:=ps) (Y:=Y) hlt hz hne (fun J hJ h=>by
  have:J=P:=Z6d hn hk hJ MJ fun c hc pk=>by
   rw [<- Gp] at pk;obtain ⟨i,h1,h2⟩:=(nN k).1 pk;rw [<- h2];exact h i h1
  rw [Ga J hJ,this,ha,hb,Int.mul_comm];omega) (fun i hi r hr=>by
  unfold fQ at hr;obtain ⟨s,hs,rfl⟩:=List.mem_map.1 hr;have hkn:k<n:=by
   unfold bG at hs;by_cases e:k=n
   ·rw [if_pos e] at hs;cases hs
   ·omega
  have tR:s∈aJ n (k+1):=by unfold bG at hs;rw [if_neg (by omega)] at hs;exact hs
  obtain ⟨Q,hQ⟩:∃ Q,Q=(aJ n k).map fun J=>qZ l k J:=⟨_,rfl⟩;have Ji:∀ J∈aJ n k,Q.getD (be n k J) 0=qZ l k J:=fun J hJ=>by rw [hQ];exact p2_ hn hk hJ _
  have hg:∀ (Z:List Int) c,c<n->((List.range n).map fun i=>cn n k Z i s).getD c 0=cn n k Z c s:=fun Z c hc=>by
   rw [oC,oE,List.getElem?_range hc];rfl
  rw [f0_ (r1:=(List.range n).map fun i=>cn n k Q i s) (r2:=(List.range n).map fun i=>cn n k X i s) (a:=a) (b:=b) n fun c hc=>by
   rw [hg Y c hc,hg Q c hc,hg X c hc];by_cases pk:s.testBit c=true
   ·rw [kM pk,kM pk,kM pk];have hm:=y1_ hn hkn tR hc pk;have h1:Y.getD (be n k (s ^^^ (1 <<< c))) 0=_:=Ga _ hm;rw [h1,Ji _ hm];unfold ft bu
    split <;> grind
   ·have pk:s.testBit c=false:=by simpa using pk
    rw [lG pk,lG pk,lG pk];simp]
  have hx:cP ((List.range n).map fun i=>cn n k X i s) (aG l i) n=0:=hA i hi _ (by unfold fQ;exact List.mem_map.2 ⟨s,hs,rfl⟩);have hq:cP ((List.range n).map fun i=>cn n k Q i s) (aG l i) n=0:=by
   have h9:=Z2a l hn hkn tR hi;have h8:((cP ((List.range n).map fun i=>cn n k Q i s) (aG l i) n:Int):Rat)=0:=by
    rw [f2_,<- h9];refine di fun c hc=>?_;rw [hg Q c hc];by_cases pk:s.testBit c=true
    ·rw [if_pos pk,kM pk,Ji _ (y1_ hn hkn tR hc pk),<- Z4k];unfold bu aF
     split
     ·rw [Rat.intCast_neg];grind
     ·grind
    ·have DE:s.testBit c=false:=by simpa using pk
     rw [if_neg pk,lG DE];show _*(0:Rat)=0;grind
   exact Rat.intCast_eq_zero_iff.1 h8
  rw [hx,hq];simp)
 intro J hJ;have h9:=hall 64 J (e5_ n hn k (by omega) J hJ) hJ;rw [Ga J hJ] at h9;omega
theorem Z1n {h:List (List Int)} {d k:Nat} {ps:Nat->Nat} (hh:fo h d k ps):∀ j,j<=d->bp j ps (aG h)≠0
 | 0,_=>by show (1:Rat)≠0;decide
 | j+1,hj=>by
  have ih:=Z1n hh j (by omega);unfold bp at ih |-;rw [<- eW,T5_,eW]
  ·intro e;rcases Rat.mul_eq_zero.1 e with e | e
   ·have e2:((aF h j (ps j):Int):Rat)=0:=e;have:=hh.ne j (by omega);exact this (by exact_mod_cast e2)
   ·exact ih e
  ·intro a ha;show (((aG h j).getD (ps a) 0:Int):Rat)=0;have:(aG h j).getD (ps a) 0=0:=hh.zero j (by omega) (ps a) (hh.mono a j ha (by omega));rw [this];rfl
theorem p0_ {m:List (List Int)} {r:Nat} {V:Nat->List Int} (h:∀ a,a<r->bD 0 m (V a)):∃ f:Nat->Nat,∀ a,a<r->f a<m.length/\aG m (f a)=V a:=by
 have h2:∀ a,∃ i,a<r->i<m.length/\aG m i=V a:=fun a=>by
  by_cases ha:a<r
  ·obtain ⟨i,-,h1,h2⟩:=h a ha;exact ⟨i,fun _=>⟨h1,h2⟩⟩
  ·exact ⟨0,fun e=>absurd e ha⟩
 exact ⟨fun a=>Classical.choose (h2 a),fun a ha=>Classical.choose_spec (h2 a) ha⟩
theorem Z3q {h M A:List (List Int)} {n d:Nat} {ps:Nat->Nat} (hw:bS (M.length+n) h) (hh:fo h d M.length ps) (hs:cH (M.length+n) (bD 0 (dj n M)) (bD 0 h)) (hd:d<=h.length)
  (hA:bg M.length (bJ A)) (J2:A.length=n) (qP:∀ i j,i<n->j<M.length->aH (bJ A) i j=(((aG (dj n M) i).getD j 0:Int):Rat)):d=eO (bJ A) M.length:=by
 have hwl:=fH (d:=0) (lT n M);have hhl:=fH (d:=0) hw;have h1:d<=eO (bJ A) M.length:=by
  refine Classical.byContradiction fun hlt=>?_;have hlt:eO (bJ A) M.length<d:=by omega
  have h0:=B6_ (Q:=fun x=>x=0) (mH (M.length+n) d ps) A5_ hwl (fun V hV=>by
   obtain ⟨f,hf⟩:=p0_ hV;have hz:=Z2y (m:=bJ A) (C:=M.length) hA (k:=d) hlt (ρ:=f) (κ:=ps) (fun a ha=>by rw [mA,J2];have:=(hf a ha).1;rw [iT] at this;exact this) (fun b hb=>hh.lt b hb);show bp d ps V=0;rw [<- hz];unfold bp;refine dP fun a b ha hb=>?_;unfold cU
   rw [qP _ _ (by have:=(hf a ha).1;rw [iT] at this;exact this) (hh.lt b hb),(hf a ha).2]) d (oJ _) (aG h) (fun a ha=>hs.2 _ (bf (Nat.zero_le _) (by omega))) (fun a h2 h3=>by omega)
  exact Z1n hh d (oJ _) h0
 have h2:eO (bJ A) M.length<=d:=by
  refine Classical.byContradiction fun hlt=>?_;obtain ⟨r,hr⟩:∃ r,eO (bJ A) M.length=r:=⟨_,rfl⟩;rw [hr] at hlt;obtain ⟨ρ,κ,q1,q2,q3⟩:=Z0x (m:=bJ A) (C:=M.length) hA (k:=r) (by omega);rw [mA,J2] at q1
  have h0:=B6_ (Q:=fun x=>x=0) (mH (M.length+n) r κ) A5_ hhl (fun V hV=>by
   obtain ⟨f,hf⟩:=p0_ hV;by_cases hex:∃ a,a<r/\d<=f a
   ·obtain ⟨a,a1,a2⟩:=hex;show bp r κ V=0;unfold bp;refine jl a1 fun b hb=>?_;unfold cU;rw [<- (hf a a1).2];have:(aG h (f a)).getD (κ b) 0=0:=hh.rest (f a) a2 (hf a a1).1 (κ b) (q2 b hb);rw [this];rfl
   ·obtain ⟨a,b,p1,p2,p3⟩:=Z2n d f (fun a ha=>by
     refine Classical.byContradiction fun hn=>hex ⟨a,by omega,by omega⟩)
    exact (mH (M.length+n) r κ).eq V a b (by omega) (by omega) (by omega) (by rw [<- (hf a (by omega)).2,<- (hf b (by omega)).2,p3])) r (oJ _) (fun a=>aG (dj n M) (ρ a)) (fun a ha=>hs.1 _ (bf (Nat.zero_le _) (by rw [iT];exact q1 a ha))) (fun a h2 h3=>by omega)
  apply q3;rw [<- h0];unfold bp;refine dP fun a b ha hb=>?_;unfold cU;exact qP _ _ (q1 a ha) (q2 b hb)
 omega
theorem Z0e {xss:List (List Int)} {C:Nat} (h:∀ r∈xss,r.length=C):bg C (bJ xss):=by
 intro r hr;obtain ⟨q,hq,rfl⟩:=List.mem_map.1 hr;unfold dN;rw [List.length_map];exact h q hq
def cJ (n k:Nat) (X:List Int):List (List Int):=(List.range n).map fun i=>(bG n k).map (cn n k X i)
theorem Z1U {n k e F:Nat} {X:List Int} (hX:∀ x∈X,x.natAbs<=10^e) (hF:10^eN e (bG n k).length<F) (hE:eN e ((bG n k).length+1)+1<=400000000):∀ R,ei F n k X=some R->R.length+eO (bJ (cJ n k X)) (bG n k).length=n:=by
 intro R hR;have hM:=S4_ n k X;have hl:=z9_ n k X;obtain ⟨M,sB⟩:∃ M,fQ n k X=M:=⟨_,rfl⟩;rw [sB] at hM hl;have hw:bS ((bG n k).length+n) (cE n k X):=by rw [hM,<- hl];exact lT n M
 have hb:∀ i,i<(cE n k X).length->cw (10^e) (aG (cE n k X) i):=l6_ hX;obtain ⟨m',d,ps,e1,k1⟩:=V2_ (N:=(bG n k).length+n) (F:=F) hw hb (bG n k).length hE hF;have hsp:=k1.sp;rw [hM] at hsp;have zN:m'.length=n:=by rw [k1.len,hM,iT]
 have hd:R.length=n-d:=by
  unfold ei at hR;rw [e1] at hR;simp only [Option.some.injEq] at hR;rw [<- hR];simp;omega
 have hrow:∀ r∈cJ n k X,r.length=M.length:=by
  intro r hr;unfold cJ at hr;obtain ⟨i,-,rfl⟩:=List.mem_map.1 hr;rw [List.length_map,hl]
 have hk:=k1.wid;have he:=k1.ech;rw [<- hl] at hk he |-;have:=Z3q (A:=cJ n k X) hk he (by rw [<- hl] at hsp;exact hsp) k1.le (Z0e hrow) (by unfold cJ;simp) fun i j hi hj=>by
  rw [nO];congr 1;rw [<- hM];unfold aW cJ;rw [oC (l:=List.map _ (List.range n)),oE,List.getElem?_range hi];have hr:aG (cE n k X) i=gF n k X i:=by
   apply gj;unfold cE;rw [oE,List.getElem?_range hi];rfl
  rw [hr];unfold gF;rw [mm (by rw [List.length_map,<- hl];exact hj)];rfl
 have hle:=k1.le;omega
end Go.Proofs.YtjlkkofmojgipaaGreatDoor
