import Derived.Test.YtoonaddcfakamaaGreatDoorYAI
import Derived.Test.YtoonaddcfakamaaGreatDoorYAF
import Derived.Deep.CutRange
import Derived.Deep.RegionWith
import Derived.OwnWalk
import Derived.Test.YtoonaddcfakamaaGreatDoorYAA
import Derived.Test.YtoonaddcfakamaaGreatDoorYAE
import Derived.Lib.ParseIntBTie
set_option linter.unusedVariables false
set_option linter.unusedSimpArgs false
set_option maxRecDepth 1000000
set_option maxHeartbeats 4000000
namespace Go.Proofs.YtoonaddcfakamaaGreatDoor
open Go.RowKit Go.Proofs.Tryz
theorem aZ.below {w w':World} {base:Nat} (h:aZ w) (he:Below base w w') (hb:3<base):aZ w':=by
 unfold aZ Lib.TabIs at h |-;exact var?_below he (show prog.globalNamed "internal/strconv.uint64pow10" = some 3 by kernel_rfl) hb h
theorem aH.below {S:Nat->Prop} {w w':World} {base:Nat} (h:aH S w w') (hb:base<=w.heap.size) (hS:∀ k,S k->base<=k):Below base w w' :=
 ⟨h.os,h.tape,h.output,h.size,fun k hk=>h.block k (n7 hk hb) (fun hs=>absurd (hS k hs) (by omega))⟩
theorem aH.setCell {S:Nat->Prop} {w w':World} (h:aH S w w') {g:Nat} (hg:S g) (i:Nat) (v:Value):aH S w (w'.setCell ⟨g,i,none⟩ v) :=
 h.trans (nD (eL w' g i v) (fun k hk=>by cases hk;exact hg))
theorem aH.ext {S:Nat->Prop} {a b c:World} (h:aH S a b) (he:aA b c):aH S a c:=h.trans (he.grownS S)
theorem aH.ofExt {S:Nat->Prop} {a b:World} (he:aA a b):aH S a b:=he.grownS S
def fo (k:Int) (r s:oQ) (j:Nat):List Int:=(aM k r s).take j++r.drop j
theorem Z1J (k:Int) (r s:oQ) (j:Nat):(fo k r s j).length=r.length:=by
 unfold fo;rw [oJ,ny,List.length_drop,dW];omega
theorem Z1I (k:Int) (r s:oQ) (j:Nat) (a:Int) (h:r[j]?=some a):(fo k r s j)[j]?=some a:=by
 unfold fo;have hj:=(nt.1 h).1;rw [oC (by rw [ny];omega),ny,dW,oI];rw [show j+(j-min j r.length)=j by omega];exact h
theorem Z1K (k:Int) (r s:oQ) (j:Nat) (a b:Int) (h:r[j]?=some a) (h':s[j]?=some b):(fo k r s j).set j (a-k*b)=fo k r s (j+1):=by
 have hj:=(nt.1 h).1;have hl:=I6_ k r s j a b h h';unfold fo;rw [nz,hl];have hd:r.drop j=a::r.drop (j+1):=by
  rw [List.drop_eq_getElem_cons hj];congr 1;exact (nt.1 h).2
 rw [hd,List.set_append_right _ _ (by rw [ny];omega),ny,dW,show j-min j r.length=0 by omega];simp
theorem Z01 (k:Int) (r s:oQ):fo k r s 0=r:=by unfold fo;simp
theorem Z1H (k:Int) (r s:oQ) (j:Nat) (h:r.length<=j):fo k r s j=aM k r s:=by
 unfold fo;rw [List.take_of_length_le (by rw [dW];exact h),List.drop_eq_nil_of_le h,List.append_nil]
theorem L1_ (k:Int) (r s r':oQ) (g o c gs os cs base:Nat) (w:World) (hr:an w g o r) (hs:an w gs os s) (hne:gs≠g) (hk:eX k r s=some r')
  (hc:r.length<=c) (hc2:c<=maxLen) (th:s.length<=cs) (E8:cs<=maxLen) (ht:aZ w) (hb:3<base) (hg:base<=g) (rh:base<=w.heap.size) :
  Calls prog 228 #[.slice (some ⟨g,o,none⟩) r.length c,.string (aB k),.slice (some ⟨gs,os,none⟩) s.length cs] w fun e w'=>e=.returned (.tuple #[])/\aH (·=g) w w'/\an w' g o r':=by
 have hz:=jN k;unfold eX at hk;by_cases h0:k=0
 ·rw [if_pos h0] at hk;obtain rfl:r=r':=oA hk;rw [oH h0] at hz;have HR:=np hr;clear hk h0 hs hr ht
  go_enter func228,ntmps228
  go_wp2_with fail;refine bodyPost_ret (results_none rfl _ _ _) rfl ⟨rfl,aH.refl _ _,HR⟩
 ·rw [if_neg h0] at hk;rw [oG h0] at hz;by_cases sL:s.length=r.length/\(fg k && s.all fg && r.all bX)=true
  ·rw [if_pos sL] at hk;obtain rfl:aM k r s=r':=oA hk;obtain ⟨hlen,qJ⟩:=sL;rw [Bool.and_eq_true,Bool.and_eq_true] at qJ;have HK9:=np (mB qJ.1.1);have HS9:=np (fun x hx=>mB (List.all_eq_true.1 qJ.1.2 x hx));have HRS:=np (fun x hx=>fu (List.all_eq_true.1 qJ.2 x hx));have HR:=np hr;have HSS:=np hs;have HT:=np ht;have HB:=np hb;unfold maxLen at hc2 E8;clear hk h0 qJ hr hs ht hb;have qU:s.length<=r.length:=(by omega);have xS:r.length<=s.length:=(by omega);clear hlen
   go_enter func228,ntmps228
   go_wp2_with fail
   go_loopw [12] (fun t wr=>∃ j:Nat,j<=s.length/\t=.int .i64 j/\aH (·=g) w wr/\Hid (an wr g o (fo k r s j))) (fun t _=>s.length-(intOf t).toNat)
   case atStart=>exact ⟨0,by omega,rfl,aH.refl _ _,by rw [Z01];exact HR⟩
   case round =>
    obtain ⟨j,hj,rfl,hG,HP⟩:=hrel;obtain ⟨wo,rfl⟩:∃ wo:World,wo=wr:=⟨_,rfl⟩;by_cases hlt:j<s.length
    ·obtain ⟨b,BW⟩:∃ b,s[j]?=some b:=⟨s[j],ns hlt⟩;obtain ⟨a,xd⟩:∃ a,r[j]?=some a:=⟨r[j]'(by omega),ns _⟩;have EU:j<r.length:=(by omega);have g0:=(HSS.grown hG (by exact hne)).cell j b BW;have g1:=HP.cell j a (Z1I k r s j a xd);have f1:=HP.free (o+j);have HM:Hid (∀ W,aZ W->oL 66 #[.string (aB k),.string (aB b)] W (.string (aB (k*b)))):=fun W hW=>Z6g k b W HK9 (HS9 b (nw BW)) hW;have HU:Hid (∀ W,aZ W->oL 301 #[.string (aB a),.string (aB (k*b))] W (.string (aB (a-k*b)))):=fun W hW=>by
      have h1:=HK9.size;have h2:=(HS9 b (nw BW)).size;have h3:=Z3D k b;exact Z6B a (k*b) W (HRS a (nw xd)) (by omega) hW
     have GV:Hid (∀ W,aA wo W->aZ W):=fun W hE=>(HT.below (hG.below rh (fun q hq=>by cases hq;exact hg)) HB).ext hE;have HSET:Hid (∀ W,aA wo W->an (W.setCell ⟨g,o+j,none⟩ (.string (aB (a-k*b)))) g o (fo k r s (j+1))):=fun W hE=>by
      rw [<- Z1K k r s j a b xd BW];exact (HP.ext hE).set j (by rw [Z1J];exact EU) _
     have GZ:Hid (∀ W,aA wo W->an W g o (fo k r s j)):=fun W hE=>HP.ext hE;have HG:=np hG;clear BW xd hG
     go_upto_region 4 with fail
     go_region_with (first
      | (go_at_call 66;refine (HM _ (GV _ (aA.drew _))).mono ?_;rintro e w5 ⟨rfl,oX⟩;have HE5:=np (aA.trans (aA.drew wo) oX);have g5:=oX.cell (a:=⟨g,o+j,none⟩) g1;clear oX)
      | (go_at_call 301;refine (HU _ (GV _ HE5)).mono ?_;rintro e w6 ⟨rfl,oU⟩;have HE6:=np (aA.trans HE5 oU);have g6:=oU.cell (a:=⟨g,o+j,none⟩) g5;have f6:=(GZ _ HE6).free (o+j);clear oU))
     all_goals
      go_wp2_with fail;go_roundw
      case rel=>exact ⟨j+1,by omega,by go_num,(HG.ext HE6).setCell rfl _ _,HSET _ HE6⟩
      case measure=>simp [intOf];omega
    ·have HF:Hid (an wo g o (aM k r s)):=by
      unfold Hid;rw [<- Z1H k r s j (by omega)];exact HP
     have HG:=np hG;clear hG;go_wp2_with fail;refine bodyPost_end (results_none rfl _ _ _) rfl ⟨rfl,HG,HF⟩
  ·rw [if_neg sL] at hk;cases hk
def ef (r:oQ):List Int:=r.map (- ·)
def fs (r:oQ) (j:Nat):List Int:=(ef r).take j++r.drop j
theorem Z3G (r:oQ) (j:Nat):(fs r j).length=r.length:=by
 unfold fs ef;rw [oJ,ny,List.length_drop,List.length_map];omega
theorem Z3F (r:oQ) (j:Nat) (a:Int) (h:r[j]?=some a):(fs r j)[j]?=some a:=by
 unfold fs ef;have hj:=(nt.1 h).1;rw [oC (by rw [ny];omega),ny,List.length_map,oI];rw [show j+(j-min j r.length)=j by omega];exact h
theorem Z3H (r:oQ) (j:Nat) (a:Int) (h:r[j]?=some a):(fs r j).set j (-a)=fs r (j+1):=by
 have hj:=(nt.1 h).1;unfold fs ef;rw [nz,nx,h];have hd:r.drop j=a::r.drop (j+1):=by
  rw [List.drop_eq_getElem_cons hj];congr 1;exact (nt.1 h).2
 rw [hd,List.set_append_right _ _ (by rw [ny];omega),ny,List.length_map,show j-min j r.length=0 by omega];simp
theorem Z1V (r:oQ):fs r 0=r:=by unfold fs;simp
theorem Z3E (r:oQ) (j:Nat) (h:r.length<=j):fs r j=ef r:=by
 unfold fs ef;rw [List.take_of_length_le (by rw [List.length_map];exact h),List.drop_eq_nil_of_le h,List.append_nil]
theorem Z06 (r:oQ) (g o c:Nat) (w:World) (hr:an w g o r) (hc:r.length<=c) (hc2:c<=maxLen) (qJ:r.all bX=true) :
  Calls prog 229 #[.slice (some ⟨g,o,none⟩) r.length c] w fun e w'=>e=.returned (.tuple #[])/\aH (·=g) w w'/\an w' g o (ef r):=by
 have HR:=np hr;have HS:=np (fun x hx=>fu (List.all_eq_true.1 qJ x hx));unfold maxLen at hc2;clear hr qJ
 go_enter func229,ntmps229
 go_wp2_with fail
 go_loopw [6] (fun t wr=>∃ j:Nat,j<=r.length/\t=.int .i64 j/\aH (·=g) w wr/\Hid (an wr g o (fs r j))) (fun t _=>r.length-(intOf t).toNat)
 case atStart=>exact ⟨0,by omega,rfl,aH.refl _ _,by rw [Z1V];exact HR⟩
 case round =>
  obtain ⟨j,hj,rfl,hG,HP⟩:=hrel;obtain ⟨wo,rfl⟩:∃ wo:World,wo=wr:=⟨_,rfl⟩;by_cases hlt:j<r.length
  ·obtain ⟨a,xd⟩:∃ a,r[j]?=some a:=⟨r[j],ns hlt⟩;have g1:=HP.cell j a (Z3F r j a xd);have HN:Hid (∀ W,oL 111 #[.string (aB a)] W (.string (aB (-a)))):=fun W=>nP a W (by have:=(HS a (nw xd)).size;omega);have HSET:Hid (∀ W,aA wo W->an (W.setCell ⟨g,o+j,none⟩ (.string (aB (-a)))) g o (fs r (j+1))):=fun W hE=>by
    rw [<- Z3H r j a xd];exact (HP.ext hE).set j (by rw [Z3G];exact hlt) _
   have GZ:Hid (∀ W,aA wo W->an W g o (fs r j)):=fun W hE=>HP.ext hE;have HG:=np hG;clear xd hG;go_wp2_with fail;refine (HN _).mono ?_;rintro e w5 ⟨rfl,oX⟩;have HE5:=np oX;have g5:=oX.cell g1;have f5:=(GZ _ oX).free (o+j);clear oX;go_wp2_with fail;go_roundw
   case rel=>exact ⟨j+1,by omega,by go_num,(HG.ext HE5).setCell rfl _ _,HSET _ HE5⟩
   case measure=>simp [intOf];omega
  ·have HF:Hid (an wo g o (ef r)):=by
    unfold Hid;rw [<- Z3E r j (by omega)];exact HP
   have HG:=np hG;clear hG;go_wp2_with fail;refine bodyPost_end (results_none rfl _ _ _) rfl ⟨rfl,HG,HF⟩
theorem Z1C (x:Int) (w:World):oM 295 #[.string (aB x)] w (.bool (x != 0)):=by
 have hz:=jN x;by_cases h:x=0
 ·rw [oH h] at hz;have HR:Hid ((x != 0)=false):=by unfold Hid;simp [h]
  rw [HR.out];clear h HR
  go_enter func295,ntmps295
  go_wp2_with fail;go_ret;exact ⟨rfl,rfl⟩
 ·rw [oG h] at hz;have HR:Hid ((x != 0)=true):=by unfold Hid;simp [h]
  rw [HR.out];clear h HR
  go_enter func295,ntmps295
  go_wp2_with fail;go_ret;exact ⟨rfl,rfl⟩
theorem x6_ (xs:oQ) (g o c:Nat) (w:World) (hr:an w g o xs) (hc:xs.length<=c) (hc2:c<=maxLen) :
  oL 294 #[.slice (some ⟨g,o,none⟩) xs.length c,.func (.func 295) #[] #[]] w (.int .i64 (bt xs)):=by
 have HR:=np hr;have eg:∀ args w,(callFunc 295 args).run prog w=.ok (.enter 295 args) w:=enters_of func295 (by kernel_rfl) rfl;unfold maxLen at hc2;clear hr
 go_enter func294,ntmps294
 go_wp2
 go_loopw [8] (fun t wr=>∃ pre rest,t=.int .i64 (pre.length:Nat)/\aA w wr/\Hid (xs=pre++rest)/\Hid (∀ x∈pre,(x != 0)=false)) (fun t _=>xs.length-(intOf t).toNat)
 case atStart=>exact ⟨[],xs,rfl,aA.refl _,rfl,by intro x hx;simp at hx⟩
 case round =>
  obtain ⟨pre,rest,rfl,hE,HP,HA⟩:=hrel;have hlen:xs.length=pre.length+rest.length:=by rw [HP.out];simp
  cases rest with
  | nil =>
   have:¬ (pre.length<xs.length):=(by simp at hlen;omega);clear hlen
   go_wp2
   go_ret;have:bt xs=-1:=by
    have:xs.findIdx? (· != 0)=none:=(by rw [HP.out,List.append_nil,List.findIdx?_eq_none_iff];exact HA);unfold bt;rw [this]
   rw [this];exact ⟨rfl,hE⟩
  | cons x rest =>
   have hlt:pre.length<xs.length:=(by simp at hlen;omega);clear hlen;have g1:=hE.cell (HR.cell pre.length x (by rw [HP.out];simp));have hcall:=fun W=>Z1C x W;cases hq:(x != 0) with
   | true =>
    have HRR:Hid (bt xs=pre.length):=by
     unfold Hid bt;rw [HP.out,List.findIdx?_append,(List.findIdx?_eq_none_iff (xs:=pre)).2 HA.out,List.findIdx?_cons,hq];simp
    rw [hq] at hcall;have HCALL:=np hcall;clear hcall hq;go_wp2_with (go_at_fn 295;refine q_ (HCALL _) ?_);go_ret;rw [HRR.out];exact ⟨rfl,hE⟩
   | false =>
    have zm:Hid (∀ y∈pre++[x],(y != 0)=false):=by
     intro y hy;rcases List.mem_append.1 hy with hy | hy;·exact HA y hy
     ·rw [List.mem_singleton.1 hy];exact hq
    rw [hq] at hcall;have HCALL:=np hcall;clear hcall hq;go_wp2_with (go_at_fn 295;refine q_ (HCALL _) ?_);go_roundw
    case rel=>exact ⟨pre++[x],rest,by simp,hE,by unfold Hid;rw [HP.out];simp,zm⟩
    case measure=>simp [intOf];omega
theorem M9_ (xs:oQ) (g o c:Nat) (w:World) (hr:an w g o xs) (hc:xs.length<=c) (hc2:c<=maxLen) :
  oL 217 #[.slice (some ⟨g,o,none⟩) xs.length c] w (.int .i64 (bt xs)):=by
 have HC:=np (x6_ xs g o c w hr hc hc2);clear hr
 go_enter func217,ntmps217
 go_wp2_with fail;refine o_ HC ?_;intro w1 HE1;clear HC;go_wp2_with fail;go_ret;exact ⟨rfl,HE1⟩
theorem nE:(prog.info? 92).map (fun i=>(i.zero,i.size,i.bytes))=some (some (.string ⟨#[]⟩),1,16):=by kernel_rfl
def ji (_:World) (u:List Value) (x:Int):Prop:=u=[.string (aB x)]
theorem aj.bigs {w:World} {base:Nat} {e:TypeId} {v:Value} {xs:oQ} (h:aj w base e 1 v ji xs):w.ownsRow base e 1 v xs.length (xs.map fun x=>Value.string (aB x)):=by
 obtain ⟨us,h1,h2,h3,h4⟩:=h;have:us=xs.map fun x=>[Value.string (aB x)]:=by
  apply List.ext_getElem?;intro i;rw [nx];by_cases hi:i<xs.length
  ·have qA:i<us.length:=(by omega);have:=(h4 i us[i] xs[i] (by simp [qA]) (by simp [hi])).now;simp only [ji] at this;simp [hi,qA,this]
  ·rw [n_ (by omega),n_ (by omega)];rfl
 rw [this,eW (fun x=>Value.string (aB x))] at h3;exact h3
theorem an.of_owns {w:World} {base:Nat} {e:TypeId} {g cap:Nat} {xs:oQ} (h:w.ownsRow base e 1 (.slice (some ⟨g,0,none⟩) xs.length cap) xs.length (xs.map fun x=>Value.string (aB x))):an w g 0 xs/\base<=g/\xs.length<=cap/\cap<=maxLen:=by
 have hc:=h.cells (g:=g) (by simp [Value.ownBlock]);have hf:=fun j=>h.frozenAt j;rcases h.2 with ⟨hv,_⟩ | ⟨g',cap',cur,hv,hb,hg,h1,h2,h3,h4⟩
 ·simp at hv
 ·simp only [Value.slice.injEq,Option.some.injEq,Addr.mk.injEq] at hv;obtain ⟨⟨rfl,-,-⟩,-,rfl⟩:=hv;refine ⟨⟨(Array.getElem?_eq_some_iff.1 hg).1,fun j x hx=>?_,fun j=>?_⟩,hb,h1,h2⟩
  ·have:=hc j (.string (aB x)) (by rw [nx,hx];rfl);rw [show (⟨g,0,none⟩:Addr).add j=⟨g,0+j,none⟩ by unfold Addr.add;split <;> simp_all] at this;exact this
  ·exact hf j
theorem V9_ (xs:oQ) (v:Value) (w:World) (h:aK w v xs) (hlen:xs.length<=1000) (ht:aZ w) :
  Calls prog 227 #[v] w fun e w'=>∃ g c,e=.returned (.slice (some ⟨g,0,none⟩) xs.length c)/\an w' g 0 xs/\w.heap.size<=g/\xs.length<=c/\c<=maxLen/\aA w w':=by
 obtain ⟨a,c,rfl,h1,h2,-,hbd,hc⟩:=h.open;obtain ⟨i0,hi,oy,hz1,hz2⟩:=info_parts nE;have HI:=np hi;have HZ0:=np oy;have HZ1:=np hz1;have HZ2:=np hz2;have HC:=np hc;have HT:=np ht;have HBD:=np hbd;unfold maxLen at h2;clear hi oy hz1 hz2 h hc ht hbd;obtain ⟨n,hn⟩:∃ n:Nat,n=xs.length:=⟨_,rfl⟩
 go_enter func227,ntmps227
 go_wp2_with (at_make;refine wpList_make_own _ rfl _ _ 263 rfl w.heap.size 92 i0 (.string ⟨#[]⟩) 1 underlying263 HI HZ0 HZ1 _ _ _ xs.length rfl rfl rfl ?c1 ?c2 ?c3 ?_)
 case c1=>rw [HZ2.out];omega
 case c2=>unfold maxLen;omega
 case c3=>exact n9 _
 intro w1 hown oV;have HE1:=np (jI oV);have HOWN:=np hown;clear hown oV;go_wp2_with fail
 go_loopw [3,11] (fun out t wr=>∃ j:Nat,j<=xs.length/\t=.int .i64 j/\aA w wr/\Hid (∃ g cc,out=.slice (some ⟨g,0,none⟩) j cc)/\Hid (aj wr w.heap.size 92 1 out ji (xs.take j))) (fun _ t _=>xs.length-(intOf t).toNat)
 case atStart=>exact ⟨0,by omega,rfl,HE1,⟨_,_,rfl⟩,⟨[],rfl,by simp,HOWN,by simp⟩⟩
 case round =>
  obtain ⟨j,hj,rfl,hE,HSL,pq⟩:=hrel;obtain ⟨wo,rfl⟩:∃ wo:World,wo=wr:=⟨_,rfl⟩;have HE:=np hE;by_cases hlt:j<xs.length
  ·obtain ⟨b,off,rfl,hb,hcell⟩:=HC (by intro e;simp [e] at hlt);obtain ⟨x,hx⟩:∃ x,xs[j]?=some x:=⟨xs[j],ns hlt⟩;have g1:=hE.cell (hcell j x hx);obtain ⟨pM,r9⟩:=HBD x (nw hx);have HOF:=np (j0 x wo pM r9 (HT.ext hE));have HN:Hid (xs.take (j+1)=xs.take j++[x]):=(by unfold Hid;rw [nz,hx];rfl);have HJ:Hid ((xs.take j).length<1000000):=(by unfold Hid;rw [ny];omega);have xm:Hid ((xs.take j).length=j):=(by unfold Hid;rw [ny];omega);clear hcell hx hE;go_wp2_with fail;refine HOF.mono ?_;rintro e w2 ⟨rfl,hE2⟩;have HB2:=np (pq.ext hE2);have HE2:=np (aA.trans HE hE2);have hszr:=HE2.size;clear hE2 HOF;go_wp2_with (at_builtin;go_must (refine jY _ rfl _ _ 263 rfl w.heap.size 92 (.string ⟨#[]⟩) 1 16 underlying263 nE rfl (by decide) u3 ji (xs.take j) x #[.string (aB x)] 92 rfl HB2 rfl rfl ?e1 (fun _ _=>rfl) HJ (by decide) hszr ?_))
   case e1=>simp [Value.oneCell']
   intro v' w5 ow qM hb5 hs5 _;have HV:Hid (∃ g cc,v'=.slice (some ⟨g,0,none⟩) (j+1) cc):=by
    obtain ⟨us,b1,b2,b3,b4⟩:=id ow;obtain ⟨g,cc,hv,-⟩:=ei b3 (by rw [oJ];simp);refine ⟨g,cc,?_⟩;rw [hv,oJ,xm.out];rfl
   rw [<- HN.out] at ow;have HB5:=np ow;have HX5:=np (Below.trans HE2 hb5);clear ow qM hb5;go_wp2_with fail;go_roundw
   case rel=>exact ⟨j+1,by omega,by go_num,HX5,HV,HB5⟩
   case measure=>simp [intOf];omega
  ·obtain rfl:j=xs.length:=(by omega);obtain ⟨g,cc,rfl⟩:=HSL.out;have hB:=pq.out;rw [List.take_length] at hB;have HR:=np (an.of_owns (aj.bigs hB));clear hB pq HSL hE;go_wp2_with fail;go_ret;exact ⟨g,cc,rfl,HR.1,HR.2.1,HR.2.2.1,HR.2.2.2,HE⟩
def fl (n:Int):Prop:=-9223372036854775808<=n/\n<=9223372036854775807
instance (n:Int):Decidable (fl n):=inferInstanceAs (Decidable (_/\_))
def gK (n:Int):Int:=if fl n then n else 0
structure bg (w:World):Prop where
 pow:aZ w
 rng:∃ te pe,w.cell? ⟨2,0,none⟩=some (.iface te pe)
theorem bg.ext {w w':World} (h:bg w) (he:aA w w'):bg w':=by
 obtain ⟨te,pe,hr⟩:=h.rng;exact ⟨h.pow.ext he,⟨te,pe,he.cell hr⟩⟩
theorem F4_ (n:Int) (h:¬ fl n):Lib.parseIntB 64 (aB n).data.toList=.range:=by
 have:=N4_ (jq n).1 (by rw [(jq n).2];exact h);rw [Lib.parseIntB_64];exact this
theorem p2_ (n:Int) (h:fl n):Lib.parseIntB 64 (aB n).data.toList=.ok n:=by
 have:=T4_ (jq n).1 (by rw [(jq n).2];exact h);rw [(jq n).2] at this;rw [Lib.parseIntB_64];exact this
theorem A5_ (n:Int) (w:World) (hs:(aB n).size<=2000000000) (ht:bg w) :
  oL 83 #[.string (aB n)] w (.tuple #[.int .i64 (gK n),.bool (decide (fl n))]):=by
 by_cases h:fl n
 ·have HV:Hid (gK n=n/\decide (fl n)=true):=⟨by unfold gK;rw [if_pos h],oH h⟩;have HP:Hid (oL 190 #[.string (aB n),.int .i64 10,.int .i64 64] w (.tuple #[.int .i64 n,.nilIface])) :=
   (strconv_ParseInt_10_at64_ok (aB n) (by omega) n (p2_ n h) w).mono fun e w' ⟨h1,h2⟩=>⟨h1,by
    rcases h2 with rfl | ⟨t,rfl⟩
    ·exact aA.refl _
    ·exact ⟨rfl,rfl,rfl,by rw [Lib.bytesWorld_size];omega,fun j hj=>Lib.bytesWorld_at_old w _ t j hj⟩⟩
  clear h ht
  go_enter func83,ntmps83
  go_wp2_with fail;refine o_ HP ?_;intro w1 HE1;clear HP;go_wp2_with fail;go_ret2;exact ⟨by rw [HV.out.1,HV.out.2];rfl,HE1⟩
 ·have HV:Hid (gK n=0/\decide (fl n)=false):=⟨by unfold gK;rw [if_neg h],oG h⟩;obtain ⟨te,pe,hr⟩:=ht.rng;have HP:=np (strconv_ParseInt_10_at64_range (aB n) (by omega) (F4_ n h) _ w hr (.inr ⟨te,pe,rfl⟩));clear h hr ht
  go_enter func83,ntmps83
  go_wp2_with fail;refine HP.mono ?_;rintro e w1 ⟨N,rfl,hN,FJ,hE1⟩;have HE1:Hid (aA w w1):=hE1;clear hE1 HP FJ;go_wp2_with fail;go_ret2;exact ⟨by rw [HV.out.1,HV.out.2];rfl,HE1⟩
def lj (_:World) (u:List Value) (x:Int):Prop:=u=[.int .i64 x]
theorem aj.ints {w:World} {base:Nat} {e:TypeId} {v:Value} {xs:oQ} (h:aj w base e 1 v lj xs):w.ownsRow base e 1 v xs.length (xs.map (Value.int .i64)):=by
 obtain ⟨us,h1,h2,h3,h4⟩:=h;have:us=xs.map fun x=>[Value.int .i64 x]:=by
  apply List.ext_getElem?;intro i;rw [nx];by_cases hi:i<xs.length
  ·have qA:i<us.length:=(by omega);have:=(h4 i us[i] xs[i] (by simp [qA]) (by simp [hi])).now;simp only [lj] at this;simp [hi,qA,this]
  ·rw [n_ (by omega),n_ (by omega)];rfl
 rw [this,eW] at h3;exact h3
def dc (n:Int):Bool:=decide (-1000000000<=n) && decide (n<=1000000000)
theorem S0_ (n:Int):dc n=true↔-1000000000<=n/\n<=1000000000:=by simp [dc]
def jc (xs:oQ) (w:World) (e:Ending) (w':World):Prop :=
 if xs.all dc=true then ∃ a c,e=.returned (.tuple #[.slice a xs.length c,.int .i64 0])/\aK w' (.slice a xs.length c) xs/\w'.ownsRow w.heap.size 3 1 (.slice a xs.length c) xs.length (xs.map (Value.int .i64))/\aA w w'
 else e=.returned (.tuple #[.slice none 0 0,.int .i64 4])/\aA w w'
theorem n0_ (xs:oQ) (g o c:Nat) (w:World) (hr:an w g o xs) (hc:xs.length<=c) (hc2:c<=maxLen) (hlen:xs.length<=1000) (qJ:xs.all bX=true) (oS:bg w) :
  Calls prog 218 #[.slice (some ⟨g,o,none⟩) xs.length c] w (jc xs w):=by
 obtain ⟨i0,hi,oy,hz1,hz2⟩:=info_parts jK;have HI:=np hi;have HZ0:=np oy;have HZ1:=np hz1;have HZ2:=np hz2;have HR:=np hr;have HLIB:=np oS;have HS:=np (fun x hx=>fu (List.all_eq_true.1 qJ x hx));unfold maxLen at hc2;clear hi oy hz1 hz2 hr qJ oS
 go_enter func218,ntmps218
 go_wp2_with (at_make;refine wpList_make_own _ rfl _ _ 36 rfl w.heap.size 3 i0 (.int .i64 0) 1 underlying36 HI HZ0 HZ1 _ _ _ xs.length rfl rfl rfl ?c1 ?c2 ?c3 ?_)
 case c1=>rw [HZ2.out];omega
 case c2=>unfold maxLen;omega
 case c3=>exact n9 _
 intro w1 hown oV;have HE1:=np (jI oV);have HOWN:=np hown;clear hown oV;go_wp2_with fail
 go_loopw [4,14] (fun out t wr=>∃ j:Nat,j<=xs.length/\t=.int .i64 j/\aA w wr/\Hid (∃ g cc,out=.slice (some ⟨g,0,none⟩) j cc)/\Hid (aj wr w.heap.size 3 1 out lj (xs.take j))/\Hid ((xs.take j).all dc=true)) (fun _ t _=>xs.length-(intOf t).toNat)
 case atStart=>exact ⟨0,by omega,rfl,HE1,⟨_,_,rfl⟩,⟨[],rfl,by simp,HOWN,by simp⟩,rfl⟩
 case round =>
  obtain ⟨j,hj,rfl,hE,HSL,pq,AU⟩:=hrel;obtain ⟨wo,rfl⟩:∃ wo:World,wo=wr:=⟨_,rfl⟩;have HE:=np hE;by_cases hlt:j<xs.length
  ·obtain ⟨x,hx⟩:∃ x,xs[j]?=some x:=⟨xs[j],ns hlt⟩;have g1:=(HR.ext hE).cell j x hx;have hxm:=nw hx;have hxs:=HS x hxm;have HSG:=np (A5_ x wo (by have:=hxs.size;omega) (HLIB.ext hE));have HN:Hid (xs.take (j+1)=xs.take j++[x]):=(by unfold Hid;rw [nz,hx];rfl);have HJ:Hid ((xs.take j).length<1000000):=(by unfold Hid;rw [ny];omega);have xm:Hid ((xs.take j).length=j):=(by unfold Hid;rw [ny];omega);by_cases hf:dc x=true
   ·obtain ⟨f1,f2⟩:=(S0_ x).1 hf;have vu:fl x:=⟨by omega,by omega⟩;have HSY:=HSG;rw [show gK x=x by unfold gK;rw [if_pos vu],show decide (fl x)=true from oH vu] at HSY;clear HSG vu;have HF2:Hid ((xs.take (j+1)).all dc=true):=(by unfold Hid;rw [HN.out,List.all_append,AU.out];simp [hf]);clear hx hxm hxs hE hf;go_wp2_with fail;refine HSY.mono ?_;rintro e w2 ⟨rfl,hE2⟩;have HB2:=np (pq.ext hE2);have HE2:=np (aA.trans HE hE2);have hszr:=HE2.size;clear hE2 HSY;go_wp2_with (at_builtin;go_must (refine jY _ rfl _ _ 36 rfl w.heap.size 3 (.int .i64 0) 1 8 underlying36 jK rfl (by decide) u4 lj (xs.take j) x #[.int .i64 x] 3 rfl HB2 rfl rfl ?e1 (fun _ _=>rfl) HJ (by decide) hszr ?_))
    case e1=>simp [Value.oneCell']
    intro v' w5 ow qM hb5 hs5 _;have HV:Hid (∃ g cc,v'=.slice (some ⟨g,0,none⟩) (j+1) cc):=by
     obtain ⟨us,b1,b2,b3,b4⟩:=id ow;obtain ⟨g,cc,hv,-⟩:=ei b3 (by rw [oJ];simp);refine ⟨g,cc,?_⟩;rw [hv,oJ,xm.out];rfl
    rw [<- HN.out] at ow;have HB5:=np ow;have HX5:=np (Below.trans HE2 hb5);clear ow qM hb5;go_wp2_with fail;go_roundw
    case rel=>exact ⟨j+1,by omega,by go_num,HX5,HV,HB5,HF2⟩
    case measure=>simp [intOf];omega
   ·have HA:Hid (¬ xs.all dc=true):=fun h=>hf (List.all_eq_true.1 h x hxm);have BT:x < -1000000000\/1000000000<x:=by
     rcases Int.lt_or_le x (-1000000000) with h | h;·exact .inl h
     ·rcases Int.lt_or_le 1000000000 x with h2 | h2;·exact .inr h2
      ·exact absurd ((S0_ x).2 ⟨h,h2⟩) hf
    by_cases vu:fl x
    ·have HSY:=HSG;rw [show gK x=x by unfold gK;rw [if_pos vu],show decide (fl x)=true from oH vu] at HSY;clear hx hxm hxs hE hf HSG vu;rcases BT with BT | BT
     ·have MG:¬ 1000000000<x:=(by omega);go_wp2_with fail;refine p_ HSY (aA.trans HE) ?_;intro w2 HE2;clear HSY;go_wp2_with fail;go_ret2;unfold jc;rw [if_neg HA.out];exact ⟨rfl,HE2⟩
     ·go_wp2_with fail;refine p_ HSY (aA.trans HE) ?_;intro w2 HE2;clear HSY;go_wp2_with fail;go_ret2;unfold jc;rw [if_neg HA.out];exact ⟨rfl,HE2⟩
    ·have HSY:=HSG;rw [show gK x=0 by unfold gK;rw [if_neg vu],show decide (fl x)=false from oG vu] at HSY;clear hx hxm hxs hE hf HSG vu BT;go_wp2_with fail;refine p_ HSY (aA.trans HE) ?_;intro w2 HE2;clear HSY;go_wp2_with fail;go_ret2;unfold jc;rw [if_neg HA.out];exact ⟨rfl,HE2⟩
  ·obtain rfl:j=xs.length:=(by omega);obtain ⟨gg,cc,rfl⟩:=HSL.out;have hB:=pq.out;have hF:=AU.out;rw [List.take_length] at hB hF;have HO:=np (aj.ints hB);have HF:=np hF;clear hB hF pq HSL AU hE;go_wp2_with fail;go_ret2;unfold jc;rw [if_pos HF.out];refine ⟨_,cc,rfl,aK.of_owns HO (fun x hx=>?_),HO,HE⟩;have:=(S0_ x).1 (List.all_eq_true.1 HF x hx);omega
theorem Z3c (cols:Nat) (w:World) :
  oM 132 #[.slice none 0 0,.int .i64 cols] w (.slice none 0 0):=by
 go_enter func132,ntmps132
 go_wp2_with fail
 go_loop [5,6] (fun sd sc=>sd=.int .i64 0/\sc=.int .i64 0) (fun _ _=>0)
 case atStart=>exact ⟨rfl,rfl⟩
 case round =>
  obtain ⟨rfl,rfl⟩:=hrel;by_cases h:0<cols
  ·go_wp2_with fail;go_ret;exact ⟨rfl,rfl⟩
  ·obtain rfl:cols=0:=(by omega);go_wp2_with fail;go_ret;exact ⟨rfl,rfl⟩
theorem Z3k:(prog.info? 263).map (fun i=>(i.zero,i.size,i.bytes))=some (some (.slice none 0 0),1,24):=by kernel_rfl
def gi (t:Nat×Nat×Nat) (n:Nat):Value:=.slice (some ⟨t.1,t.2.1,none⟩) n t.2.2
def k9 (tags:List (Nat×Nat×Nat)) (m:oP):List Value:=List.zipWith (fun t r=>gi t r.length) tags m
structure dj (w:World) (ob base:Nat) (v:Value) (tags:List (Nat×Nat×Nat)) (m:oP):Prop where
 len:tags.length=m.length
 own:w.ownsRow ob 263 1 v m.length (k9 tags m)
 row:∀ (i:Nat) t r,tags[i]?=some t->m[i]?=some r->r.length<=t.2.2/\t.2.2<=maxLen/\an w t.1 t.2.1 r/\base<=t.1/\v.ownBlock≠some t.1
 nodup:(tags.map (·.1)).Nodup
theorem dj.nil (w:World) (ob base:Nat):dj w ob base (.slice none 0 0) [] [] :=
 ⟨rfl,World.ownsRow_nil _ _ _ _,by intro i t r h;simp at h,by simp⟩
theorem dj.ext {w w':World} {ob base:Nat} {v:Value} {tags:List (Nat×Nat×Nat)} {m:oP} (h:dj w ob base v tags m) (he:aA w w'):dj w' ob base v tags m :=
 ⟨h.len,fN h.own he,fun i t r ht hr=>by
  obtain ⟨h1,h2,h3,h4,h5⟩:=h.row i t r ht hr
  exact ⟨h1,h2,h3.ext he,h4,h5⟩,h.nodup⟩
theorem dj.snoc {w w':World} {ob base:Nat} {v v':Value} {tags:List (Nat×Nat×Nat)} {m:oP} (h:dj w ob base v tags m) (t:Nat×Nat×Nat) (r:oQ) (pv:r.length<=t.2.2) (pF:t.2.2<=maxLen) (hR:an w t.1 t.2.1 r) (hb:base<=t.1) (hv:v.ownBlock≠some t.1) (hn:t.1∉tags.map (·.1))
  (hown:w'.ownsRow ob 263 1 v' (m.length+1) (k9 tags m++[gi t r.length])) (hg:w.grownBy w' v.ownBlock) (qN:v'.ownBlock=v.ownBlock\/∃ b,v'.ownBlock=some b/\w.heap.size<=b) :
  dj w' ob base v' (tags++[t]) (m++[r]):=by
 have pG:∀ (s:Nat×Nat×Nat) q,an w s.1 s.2.1 q->v.ownBlock≠some s.1->an w' s.1 s.2.1 q/\v'.ownBlock≠some s.1:=fun s q hs vR=>by
  refine ⟨hs.same hg.size (hg.block s.1 hs.lt vR.symm),fun e=>?_⟩;rcases qN with e2 | ⟨b,e2,e3⟩
  ·exact vR (e2.symm.trans e)
  ·rw [e2] at e;cases e;have:=hs.lt;omega
 refine ⟨by simp [h.len],?_,fun i s q hs hq=>?_,?_⟩
 ·have e:k9 (tags++[t]) (m++[r])=k9 tags m++[gi t r.length]:=by
   unfold k9;rw [List.zipWith_append h.len];rfl
  rw [e,oJ];exact hown
 ·by_cases hi:i<tags.length
  ·rw [oB hi] at hs;rw [oB (by rw [<- h.len];exact hi)] at hq;obtain ⟨h1,h2,h3,h4,h5⟩:=h.row i s q hs hq;obtain ⟨k1,k2⟩:=pG s q h3 h5;exact ⟨h1,h2,k1,h4,k2⟩
  ·rw [oC (by omega)] at hs;rw [oC (by rw [<- h.len];omega)] at hq;have e1:i-tags.length=0:=(by have:=(nt.1 hs).1;simp at this;omega);have e2:i-m.length=0:=(by rw [<- h.len];exact e1);rw [e1] at hs;rw [e2] at hq;simp only [oE,Option.some.injEq] at hs hq;subst hs;subst hq;obtain ⟨k1,k2⟩:=pG t r hR hv;exact ⟨pv,pF,k1,hb,k2⟩
 ·rw [List.map_append,List.nodup_append];refine ⟨h.nodup,by simp,?_⟩;intro a ha b oY e;simp only [List.map_cons,List.map_nil,List.mem_singleton] at oY;subst e;subst oY;exact hn ha
theorem dj.mat {w:World} {ob base:Nat} {g cap:Nat} {tags:List (Nat×Nat×Nat)} {m:oP} (h:dj w ob base (.slice (some ⟨g,0,none⟩) m.length cap) tags m) (yp:base<=ob) :
  cF w g tags m/\m.length<=cap/\cap<=maxLen/\∀ b,dp g tags b->base<=b:=by
 have hc:=h.own.cells (g:=g) (by simp [Value.ownBlock]);have hf:=fun j=>h.own.frozenAt j;rcases h.own.2 with ⟨hv,_⟩ | ⟨g',cap',cur,hv,hb,hg,h1,h2,h3,h4⟩
 ·simp at hv
 ·simp only [Value.slice.injEq,Option.some.injEq,Addr.mk.injEq] at hv;obtain ⟨⟨rfl,-,-⟩,-,rfl⟩:=hv;refine ⟨⟨h.len,(Array.getElem?_eq_some_iff.1 hg).1,fun j=>hf j,fun i t r ht hr=>?_,?_⟩,h1,h2,fun b oY=>?_⟩
  ·obtain ⟨k1,k2,k3,k4,k5⟩:=h.row i t r ht hr;refine ⟨?_,k1,k2,k3⟩;have:=hc i (gi t r.length) (by unfold k9;rw [List.getElem?_zipWith,ht,hr]);rw [show (⟨g,0,none⟩:Addr).add i=⟨g,i,none⟩ by unfold Addr.add;split <;> simp_all] at this;exact this
  ·rw [List.nodup_cons];refine ⟨fun hm=>?_,h.nodup⟩;obtain ⟨t,ht,rfl⟩:=List.mem_map.1 hm;obtain ⟨i,hi⟩:=List.getElem?_of_mem ht;have hl:i<m.length:=(by rw [<- h.len];exact (nt.1 hi).1);exact (h.row i t m[i] hi (ns hl)).2.2.2.2 rfl
  ·rcases List.mem_cons.1 oY with rfl | oY;·exact n8 yp hb
   ·obtain ⟨t,ht,rfl⟩:=List.mem_map.1 oY;obtain ⟨i,hi⟩:=List.getElem?_of_mem ht;have hl:i<m.length:=(by rw [<- h.len];exact (nt.1 hi).1);exact (h.row i t m[i] hi (ns hl)).2.2.2.1
theorem Z2_ (w:World) {ops:Array Oper} {rest:List Oper} {o:Oper} {a:Act} {Q:Exit->Act->World->Prop} (qB:o.guard=none)
  (s x:Operand) (ho:o.op=Op.call { callee:=Callee.builtin Builtin.append,args:=#[s,x],argTypes:=#[174,174] }) (ob base:Nat)
  (v:Value) (tags:List (Nat×Nat×Nat)) (m:oP) (t:Nat×Nat×Nat) (r:oQ) (u:Array Value) (T:TypeId) (hs:a.eval s=v) (hB:dj w ob base v tags m)
  (hx:a.eval x=.slice (some ⟨w.heap.size,0,none⟩) 1 1) (hu:u=#[gi t r.length]) (pv:r.length<=t.2.2) (pF:t.2.2<=maxLen) (hR:an w t.1 t.2.1 r) (hb:base<=t.1) (hv:v.ownBlock≠some t.1) (hn:t.1∉tags.map (·.1))
  (hlen:m.length<1000000) (od:ob<=w.heap.size)
  (h:∀ v' w',dj w' ob base v' (tags++[t]) (m++[r])->Below ob w w'->Hid (∃ g c,v'=.slice (some ⟨g,0,none⟩) (m.length+1) c)->wpList prog ops Q rest (a.put o.dst v') w') :
  wpList prog ops Q (o::rest) a (w.alloc (.cells u T)):=by
 refine wpList_plain qB fun K hK=>?_;subst hu;obtain ⟨i0,hi,hz,oe,pX⟩:=info_parts Z3k;have pJ:∀ j,(⟨w.heap.size,0,none⟩:Addr).add j=⟨w.heap.size,j,none⟩:=by intro j;unfold Addr.add;split <;> simp_all
 have hE:aA w (w.alloc (.cells #[gi t r.length] T)):=aA.alloc _ _;refine iw (w.alloc (.cells #[gi t r.length] T)) s x 174 ho ob 263 i0 (.slice none 0 0) 1 24 underlying174 hi hz oe pX rfl (by decide) v m.length (k9 tags m) hs (fN hB.own hE) ⟨w.heap.size,0,none⟩ 1 1 [gi t r.length] hx rfl ?_ ?_ ?_ ?_ ?_ ?_
 ·intro j q hq;rw [pJ,World.cell?_alloc_new];simpa using hq
 ·intro u hu;rw [List.mem_singleton.1 hu];rfl
 ·unfold maxLen;omega
 ·omega
 ·simp;omega
 ·intro v' w' hown oV _ qN
  have hLB:=(hB.ext hE).snoc t r pv pF (hR.ext hE) hb hv hn hown oV (by
   rcases qN with h1 | h1;·exact .inl h1
   ·exact .inr ⟨_,h1,n9 _⟩)
  refine hK _ _ (h v' w' hLB ?_ ?_)
  ·have pf:w.grownBy w' v.ownBlock:=fm (hE.grown _) oV;refine ⟨pf.os,pf.tape,pf.output,pf.size,fun b oY=>pf.block b (by omega) ?_⟩;intro e;have:=(hB.own.lt b e.symm).1;omega
  ·obtain ⟨g,c,qg,-⟩:=ei hown (by omega);exact ⟨g,c,qg⟩
theorem k7_ (xss:oP) (v:Value) (w:World) (h:aV w v xss) (hlen:xss.length<=1000) (hrow:∀ xs∈xss,xs.length<=1000) (ht:aZ w) :
  Calls prog 131 #[v] w fun e w'=>∃ v' tags,e=.returned v'/\dj w' w.heap.size w.heap.size v' tags xss/\(v'=.slice none 0 0/\xss=[]\/∃ g c,v'=.slice (some ⟨g,0,none⟩) xss.length c)/\aA w w':=by
 obtain ⟨a,c,rfl,h1,h2,-,hc⟩:=aP.open h;have HC:=np hc;have HT:=np ht;have HROW:=np hrow;unfold maxLen at h2;clear h hc ht hrow
 go_enter func131,ntmps131
 go_wp2_with fail
 go_loopw [3,8] (fun out t wr=>∃ (j:Nat) (tags:List (Nat×Nat×Nat)),j<=xss.length/\t=.int .i64 j/\aA w wr/\Hid (dj wr w.heap.size w.heap.size out tags (xss.take j))/\Hid (out=.slice none 0 0/\j=0\/∃ g c,out=.slice (some ⟨g,0,none⟩) j c)) (fun _ t _=>xss.length-(intOf t).toNat)
 case atStart=>exact ⟨0,[],by omega,rfl,aA.refl _,dj.nil _ _ _,.inl ⟨rfl,rfl⟩⟩
 case round =>
  obtain ⟨j,tags,hj,rfl,hE,HB,HV⟩:=hrel;obtain ⟨wo,rfl⟩:∃ wo:World,wo=wr:=⟨_,rfl⟩;have HE:=np hE;by_cases hlt:j<xss.length
  ·obtain ⟨b,off,rfl,hb,hcell⟩:=HC (by intro e;simp [e] at hlt);obtain ⟨xs,hx⟩:∃ x,xss[j]?=some x:=⟨xss[j],ns hlt⟩;obtain ⟨vr,rn,sW⟩:=hcell j xs hx;have g1:=hE.cell sW;obtain ⟨ar,cr,rfl,-,-,-,-,-⟩:=aK.open rn;have HL:=np (V9_ xs _ wo (rn.ext hE) (HROW xs (nw hx)) (HT.ext hE));have HN:Hid (xss.take (j+1)=xss.take j++[xs]):=(by unfold Hid;rw [nz,hx];rfl);have HJ:Hid ((xss.take j).length=j):=(by unfold Hid;rw [ny];omega);clear hcell hx rn sW hE;go_wp2_with fail;refine HL.mono ?_;rintro e w2 ⟨g,cg,rfl,hR,hg1,z8,rK,hE2⟩;have HB2:=np (HB.ext hE2);have HE2:=np (aA.trans HE hE2);have hszr:=HE2.size;have hszw:=HE.size;have HR:=np hR;have hv1:u3.ownBlock≠some g:=fun e=>by have:=(HB.own.lt g e).2;omega
   have o4:g∉tags.map (·.1):=fun hm=>by
    obtain ⟨t,ht,e⟩:=List.mem_map.1 hm;obtain ⟨i,hi⟩:=List.getElem?_of_mem ht;have hl:i<(xss.take j).length:=(by rw [<- HB.out.len];exact (nt.1 hi).1);have:=(HB.row i t _ hi (ns hl)).2.2.1.lt;omega
   have HV1:=np hv1;have HN1:=np o4;clear hE2 HL hR hv1 o4;go_wp2_with (at_builtin;go_must (refine Z2_ _ rfl _ _ rfl w.heap.size w.heap.size u3 tags (xss.take j) (g,0,cg) xs #[.slice (some ⟨g,0,none⟩) xs.length cg] 263 rfl HB2 rfl rfl z8 rK HR ?e1 HV1 HN1 ?e2 hszr ?_))
   case e1=>show w.heap.size<=g;omega
   case e2=>rw [HJ.out];omega
   intro v' w5 ow hb5 tV;rw [<- HN.out] at ow;have HB5:=np ow;have HV5:=tV;have HX5:=np (Below.trans HE2 hb5);clear ow hb5 tV;go_wp2_with fail;go_roundw
   case rel=>exact ⟨j+1,_,by omega,by go_num,HX5,HB5,.inr HV5⟩
   case measure=>simp [intOf];omega
  ·obtain rfl:j=xss.length:=(by omega);have hB:=HB.out;rw [List.take_length] at hB;have HBF:=np hB;have LM:Hid (u3=.slice none 0 0/\xss=[]\/∃ g c,u3=.slice (some ⟨g,0,none⟩) xss.length c):=by
    rcases HV.out with ⟨h1,h2⟩ | h1;·exact .inl ⟨h1,List.eq_nil_of_length_eq_zero h2⟩
    ·exact .inr h1
   clear hB HB HV hE;go_wp2_with fail;go_ret;exact ⟨_,tags,rfl,HBF,LM,HE⟩
def l9 (w:World) (u:List Value) (x:oQ):Prop:=∃ v,u=[v]/\aK w v x
theorem ir {P:Program} {fn:Func} {p u:Tmp} {ty:TypeId} (h:fn.results=#[.cell p ty,.tmp u]) (tmps:Array Value) (w:World) (g:Nat) (t:TypeId) (cs:Array Value) (fr:Nat×Nat) (d:TypeDesc)
  (hp:tmps.getD p undef=.pointer (some ⟨g,0,none⟩)) (hg:w.heap[g]?=some (.cells cs t fr))
  (hu:P.underlying ty=some d) (hd:(match d with | .struct _ | .array _ _=>true | _=>false)=true) (hi:(P.info? ty).map (·.size)=some cs.size) :
  (results fn tmps).run P w=.ok (.tuple #[.agg cs,tmps.getD u undef]) w:=by
 rw [Go.results_cell_tmp h,hp];simp [asAddr,run_loadVar_row w g t ty cs fr d hg hu hd hi,Result.andThen]
def ec (cols:Nat) (m:oP) (w:World) (e:Ending) (w':World):Prop :=
 (if (m.all fun r=>r.all dc)=true then ∃ v,e=.returned (.tuple #[.agg #[.int .i64 cols,v],.int .i64 0])/\aT w' (·<w.heap.size) (fun W=>aV W v m) else e=.returned (.tuple #[.agg #[.int .i64 0,.slice none 0 0],.int .i64 4]))/\aA w w'
theorem Z02 (cols:Nat) (m:oP) (ad:Option Addr) (cap:Nat) (w:World) (hM:m=[]\/∃ g0 tags,ad=some ⟨g0,0,none⟩/\cF w g0 tags m) (qJ:∀ r∈m,r.all bX=true) (hl:∀ r∈m,r.length<=1000)
  (sw:m.length<=cap) (qP:cap<=maxLen) (hm:m.length<=1000) (hc:cols<=1000) (oS:bg w) :
  Calls prog 133 #[.slice ad m.length cap,.int .i64 cols] w (ec cols m w):=by
 have HM:=np hM;have HSM:=np qJ;have HLE:=np hl;have HLIB:=np oS;unfold maxLen at qP;clear hM qJ hl oS
 go_enter func133,ntmps133
 go_wp2_with fail;have qG:aA w ((w.alloc (Obj.cells #[Value.int IntKind.i64 0,Value.slice none 0 0] 76)).alloc (Obj.cells #[Value.int IntKind.i64 cols,Value.slice none 0 0] 76)):=(aA.alloc _ _).trans (aA.alloc _ _);have hbk0:=dE (w.alloc (Obj.cells #[Value.int IntKind.i64 0,Value.slice none 0 0] 76)) #[Value.int IntKind.i64 cols,Value.slice none 0 0] 76;have hbk1:=aF (dE w #[Value.int IntKind.i64 0,Value.slice none 0 0] 76) (aA.alloc (w.alloc (Obj.cells #[Value.int IntKind.i64 0,Value.slice none 0 0] 76)) (Obj.cells #[Value.int IntKind.i64 cols,Value.slice none 0 0] 76));have ym:((w.alloc (Obj.cells #[Value.int IntKind.i64 0,Value.slice none 0 0] 76)).alloc (Obj.cells #[Value.int IntKind.i64 cols,Value.slice none 0 0] 76)).heap.size=w.heap.size+2:=by simp
 rw [show (w.alloc (Obj.cells #[Value.int IntKind.i64 0,Value.slice none 0 0] 76)).heap.size=w.heap.size+1 by simp] at hbk0;generalize ((w.alloc (Obj.cells #[Value.int IntKind.i64 0,Value.slice none 0 0] 76)).alloc (Obj.cells #[Value.int IntKind.i64 cols,Value.slice none 0 0] 76))=W0 at *
 have HB0:=np hbk0;have HB1:=np hbk1
 go_loopw [15] (fun t wr=>∃ (j:Nat) (S:Nat->Prop) (v:Value),j<=m.length/\t=.int .i64 j/\aA w wr/\Hid (iU S 0 wr)/\Hid (∀ b,b<w.heap.size+2->S b)/\Hid (bY wr S (w.heap.size+2) 36 1 v l9 (m.take j))/\Hid (wr.heap[w.heap.size+1]?=some (.cells #[.int .i64 cols,v] 76 (0,0)))/\Hid (wr.heap[w.heap.size]?=some (.cells #[.int .i64 0,.slice none 0 0] 76 (0,0)))/\Hid ((m.take j).all (fun r=>r.all dc)=true)) (fun t _=>m.length-(intOf t).toNat)
 case atStart=>exact ⟨0,fun b=>b<w.heap.size+2,_,by omega,rfl,qG,fun b hb=>by rw [ym];exact ⟨Nat.zero_le _,hb⟩,fun b hb=>hb,bY.nil _ _ _ _ _ _,HB0,HB1,rfl⟩
 case round =>
  obtain ⟨j,S,v,hj,rfl,hE,HOK,HSB,pq,HK,HK1,AU⟩:=hrel;obtain ⟨wo,rfl⟩:∃ wo:World,wo=wr:=⟨_,rfl⟩;have HE:=np hE;by_cases hlt:j<m.length
  ·obtain ⟨g0,tags,rfl,rk⟩:∃ g0 tags,ad=some ⟨g0,0,none⟩/\cF w g0 tags m:=by
    rcases HM.out with h0 | h0;·rw [h0] at hlt;simp at hlt
    ·exact h0
   obtain ⟨t,xx,c1,c2,c3,c4,c5⟩:=(rk.ext hE).get j hlt;clear rk;have hmem:aC m j∈m:=nw (en hlt);have HSH:=np (n0_ (aC m j) t.1 t.2.1 t.2.2 wo c4 c2 c3 (HLE _ hmem) (HSM _ hmem) (HLIB.ext HE));have HN:Hid (m.take (j+1)=m.take j++[aC m j]):=(by unfold Hid;rw [nz,en hlt];rfl);have HJ:Hid ((m.take j).length<1000000):=(by unfold Hid;rw [ny];omega);have HME:=np hmem;obtain ⟨xr,pL⟩:=oN (aC m j);rw [pL] at c1 HSH HN HME;unfold maxLen at c3;clear xx c2 c4 c5 pL hE hmem;by_cases hf:xr.all dc=true
   ·go_wp2_with fail;refine HSH.mono ?_;rintro e w2 rp;unfold jc at rp;rw [if_pos hf] at rp;obtain ⟨ar,cr,rfl,hI,hO,hE2⟩:=rp;have HSF:Hid (aT w2 S fun w=>l9 w [.slice ar xr.length cr] xr):=(aT.owns hO (fun k hk hs=>by have:=(hO.lt k hk).1;have:=(HOK k hs).2;omega)).mono (fun w h=>⟨_,rfl,aK.of_owns h (fun x hx=>by have:=(S0_ x).1 (List.all_eq_true.1 hf x hx);omega)⟩);have HB2:=np (pq.ext hE2);have HK2:=np (aF HK hE2);have HK12:=np (aF HK1 hE2);have HOK2:=np (HOK.grow hE2.size);have HE2:=np (aA.trans HE hE2);have g1:=ag HK2 1;have g2:=cO HK2 1;simp only [oF,oE,oD] at g1;clear hI hO hE2 HSH pq HK HK1 HOK;have hs2:w.heap.size+2<=w2.heap.size:=by have:=c_ HK2;omega
    go_wp2_with (at_builtin;go_must (refine Z7_ _ rfl _ _ 32 rfl S (w.heap.size+2) 36 (.slice none 0 0) 1 24 underlying32 Z1q rfl (by decide) v l9 (m.take j) xr #[.slice ar xr.length cr] 36 rfl HB2 _ rfl rfl rfl ?a1 HSF HJ (by decide) hs2 0 (Nat.zero_le _) HOK2 ?_))
    case a1=>simp [Value.oneCell']
    intro v' w5 S5 A7 Bl s7 ow qM hb5 hs5 Ap;obtain ⟨gv,cv,rfl,-,-,-,-⟩:=ow.shape (by simp);have hk5:=dn HK2 qM (HB2.neBlock HK2 (by decide));have HK15:=np ((hb5.block w.heap.size (by omega)).trans HK12);have g15:=ag hk5 1;have g25:=cO hk5 1;simp only [oF,oE,oD] at g15;have HK5:=np hk5;have HX5:=np (Below.trans HE2 (Below.mono hb5 (by omega)));have HOK5:=np A7;have CO:Hid (∀ b,b<w.heap.size+2->S5 b):=fun b hb=>Bl _ (HSB b hb);rw [<- HN.out,show (m.take (j+1)).length=j+1 by rw [ny];omega] at ow;have HB5:=np ow;clear A7 Bl s7 ow Ap hk5 g1 g2;go_wp2_with fail;go_roundw
    case rel=>exact ⟨j+1,S5,.slice (some ⟨gv,0,none⟩) (j+1) cv,by omega,by go_num,HX5.setCell (p:=⟨w.heap.size+1,1,none⟩) (by simp) _,HOK5.grow (by simp [World.setCell]),CO,HB5.store (CO _ (by omega)) (HB5.neBlock HK5 (by decide)),d_ HK5 1 _,(j4 _ _ _ _ _ (by omega)).trans HK15,by unfold Hid;rw [HN.out,List.all_append,AU.out];simp [hf]⟩
    case measure=>simp [intOf];omega
   ·have HA:Hid (¬ (m.all fun r=>r.all dc)=true):=fun h=>hf (List.all_eq_true.1 h xr HME);have q0:=ag HK1 0;have q1:=ag HK1 1;have q2:=cO HK1 0;have q3:=cO HK1 1;simp only [oF,oE,oD] at q0 q1;go_wp2_with fail;refine HSH.mono ?_;rintro e w2 rp;unfold jc at rp;rw [if_neg hf] at rp;obtain ⟨rfl,hE2⟩:=rp;have hk2:=aF HK1 hE2;have q0:=ag hk2 0;have q1:=ag hk2 1;have q2:=cO hk2 0;have q3:=cO hk2 1;simp only [oF,oE,oD] at q0 q1;have HE2:=np (aA.trans HE hE2);clear hE2 HSH;go_wp2_with fail;have hkA:=d_ (d_ hk2 0 (.int .i64 0)) 1 (.slice none 0 0);have r0:=ag hkA 0;have r1:=ag hkA 1;simp only [oF,oE,oD,List.setIfInBounds_toArray,List.set_cons_zero,List.set_cons_succ] at r0 r1;have HX2:Hid (aA w ((w2.setCell ⟨w.heap.size,0,none⟩ (.int .i64 0)).setCell ⟨w.heap.size,1,none⟩ (.slice none 0 0))):=(HE2.setCell (p:=⟨w.heap.size,0,none⟩) (by simp) _).setCell (p:=⟨w.heap.size,1,none⟩) (by simp) _;refine bodyPost_ret (ir (by rfl) _ _ w.heap.size 76 #[.int .i64 0,.slice none 0 0] (0,0) _ (by rfl) hkA underlying76 (by rfl) (by kernel_rfl)) (by rfl) ?_;unfold ec;rw [if_neg HA.out];exact ⟨rfl,HX2⟩
  ·obtain rfl:j=m.length:=(by omega);obtain ⟨av,nv,cv,rfl⟩:∃ a n c,v=.slice a n c:=by
    obtain ⟨_,us,_,_,h3,_⟩:=pq.out;rcases h3.2 with ⟨hv,_⟩ | ⟨g,c,_,hv,_⟩
    ·exact ⟨_,_,_,hv⟩
    ·exact ⟨_,_,_,hv⟩
   have q0:=ag HK1 0;have q1:=ag HK1 1;have q2:=cO HK1 0;have q3:=cO HK1 1;have o0:=ag HK 0;have o1:=ag HK 1;simp only [oF,oE,oD] at q0 q1 o0 o1;clear hE;go_wp2_with fail;have hkA:=d_ (d_ HK1 0 (.int .i64 cols)) 1 (.slice av nv cv);simp only [List.setIfInBounds_toArray,List.set_cons_zero,List.set_cons_succ] at hkA;refine bodyPost_ret (ir (by rfl) _ _ w.heap.size 76 #[.int .i64 cols,.slice av nv cv] (0,0) _ (by rfl) hkA underlying76 (by rfl) (by kernel_rfl)) (by rfl) ?_;have hF:=AU.out;have hB:=pq.out;rw [List.take_length] at hF hB;unfold ec;rw [if_pos hF];refine ⟨⟨_,rfl,?_⟩,(HE.setCell (p:=⟨w.heap.size,0,none⟩) (by simp) _).setCell (p:=⟨w.heap.size,1,none⟩) (by simp) _⟩;have hne:=hB.neBlock HK1 (by decide);exact ((hB.store (i:=0) (x:=.int .i64 cols) (HSB _ (by omega)) hne).store (i:=1) (x:=.slice av nv cv) (HSB _ (by omega)) hne).keeps fun b hb=>⟨HSB b (by omega),by omega⟩
theorem cF.take {w:World} {g0:Nat} {tags:List (Nat×Nat×Nat)} {m:oP} (h:cF w g0 tags m) (d:Nat):cF w g0 (tags.take d) (m.take d):=by
 refine ⟨by rw [ny,ny,h.len],h.lt,h.free,fun i t r ht hr=>?_,?_⟩
 ·have hi:i<d:=by
   have:=(nt.1 ht).1;rw [ny] at this;omega
  rw [List.getElem?_take_of_lt hi] at ht hr;exact h.row i t r ht hr
 ·have hn:=List.nodup_cons.1 h.nodup;rw [List.nodup_cons];have hs:((tags.take d).map (·.1)).Sublist (tags.map (·.1)):=(List.take_sublist d tags).map _;exact ⟨fun hm=>hn.1 (hs.subset hm),hn.2.sublist hs⟩
theorem an.drop {w:World} {g o:Nat} {xs:oQ} (h:an w g o xs) (k:Nat):an w g (o+k) (xs.drop k) :=
 ⟨h.lt,fun j x hx=>by
  rw [oI] at hx
  rw [Nat.add_assoc];exact h.cell (k+j) x hx,h.free⟩
def jE (k:Nat) (t:Nat×Nat×Nat):Nat×Nat×Nat:=(t.1,t.2.1+k,t.2.2-k)
theorem t1_ (k:Nat) (m:oP) (r:oQ):dZ k (m++[r])=dZ k m++(if (k:Int)<=bt r then [r.drop k] else []):=by
 unfold dZ;rw [List.filter_append,List.map_append];congr 1;by_cases h:(k:Int)<=bt r <;> simp [h]
end Go.Proofs.YtoonaddcfakamaaGreatDoor
