import Derived.Test.YtjlkkofmojgipaaGreatDoorXAA
import Derived.Lib.SliceRun
import Derived.WalkSpells
import Derived.Laws.AppendOwnNone
import Derived.Test.YtjlkkofmojgipaaGreatDoorXAI
import Derived.RangeFuncNested
import Derived.RangeFuncBound
import Derived.RangeFuncCalls
import Derived.RangeFuncLeaves
import Derived.Shelf.Abstract
import Derived.Shelf.RegionOpen
import Derived.WalkKit
import Derived.OwnWalkIn
import Derived.TacticsInMore
import Derived.LoopNIn
import Derived.LoopIn
import Derived.RangeFuncBox
import Derived.Test.YtjlkkofmojgipaaGreatDoorXAF
import Derived.Sort.QuietIn
import Derived.Test.YtjlkkofmojgipaaGreatDoorXAH
import Derived.Test.YtjlkkofmojgipaaGreatDoorXAG
import Derived.Deep.CutRange
import Derived.Deep.RegionHeld3
set_option linter.unusedVariables false
set_option linter.unusedSimpArgs false
set_option maxRecDepth 1000000
set_option maxHeartbeats 4000000
namespace Go.Proofs.YtjlkkofmojgipaaGreatDoor
open Go.RowKit Go.Proofs.Tryz
def gT (p:Int->Bool) (xs:List Int):Int:=match xs.findIdx? p with | some i=>(i:Int) | none=>-1
def Z0V (g:Nat) (lb:Array Value) (p:Int->Bool) (w:World) (xs:List Int):Prop :=
 ∀ W x,x∈xs->aC w W->Calls prog g (#[.int .i64 x]++lb) W fun e W'=>e=.returned (.bool (p x))/\aC W W'
theorem X5_ (xs:List Int) (v:Value) (g:Nat) (lb:Array Value) (p:Int->Bool) (w:World) (h:au w v xs) (eg:∀ args w,(callFunc g args).run prog w=.ok (.enter g args) w) (hp:Z0V g lb p w xs) :
  oW 116 #[v,.func (.func g) #[] lb] w (.int .i64 (gT p xs)):=by
 obtain ⟨a,c,rfl,h1,h2,-,hxb,hc⟩:=h.open;have HC:=n8 hc;have HPR:=n8 hp;clear hc h hxb hp;unfold maxLen at h2
 go_enter func116,ntmps116
 go_wp2
 go_loopw [8] (fun t wr=>∃ pre rest,t=.int .i64 (pre.length:Nat)/\aC w wr/\Hid (xs=pre++rest)/\Hid (∀ x∈pre,p x=false)) (fun t _=>xs.length-(intOf t).toNat)
 case atStart=>exact ⟨[],xs,rfl,aC.refl _,rfl,by intro x hx;simp at hx⟩
 case round =>
  obtain ⟨pre,rest,rfl,hE,HP,HA⟩:=hrel;have hlen:xs.length=pre.length+rest.length:=by rw [HP.out];simp
  cases rest with
  | nil =>
   have:¬ (pre.length<xs.length):=by simp at hlen;omega
   clear hlen
   go_wp2
   go_ret;have:gT p xs=-1:=by
    have:xs.findIdx? p=none:=by rw [HP.out,List.append_nil,List.findIdx?_eq_none_iff];exact HA
    unfold gT;rw [this]
   rw [this];exact ⟨rfl,hE⟩
  | cons x rest =>
   have hlt:pre.length<xs.length:=by simp at hlen;omega
   clear hlen;obtain ⟨b,off,rfl,hb,hcell⟩:=HC (by rw [HP.out];simp);have g1:=hE.cell (hcell pre.length x (by rw [HP.out];simp));clear hcell;have hcall:=fun W he=>HPR W x (by rw [HP.out];simp) he;cases hq:p x with
   | true =>
    have HR:Hid (gT p xs=pre.length):=by
     unfold Hid gT;rw [HP.out,List.findIdx?_append,(List.findIdx?_eq_none_iff (xs:=pre)).2 HA.out,List.findIdx?_cons,hq];simp
    rw [hq] at hcall;have HCALL:=n8 hcall;clear hcall hq;go_wp2_with (go_at_fn g;refine (HCALL _ hE).mono ?_;rintro e w' ⟨rfl,wM⟩);go_ret;rw [HR.out];exact ⟨rfl,hE.trans (by assumption)⟩
   | false =>
    have IU:Hid (∀ y∈pre++[x],p y=false):=by
     intro y hy;rcases List.mem_append.1 hy with hy | hy
     ·exact HA y hy
     ·rw [List.mem_singleton.1 hy];exact hq
    rw [hq] at hcall;have HCALL:=n8 hcall;clear hcall hq;go_wp2_with (go_at_fn g;refine (HCALL _ hE).mono ?_;rintro e w' ⟨rfl,wM⟩);go_roundw
    case rel=>exact ⟨pre++[x],rest,by simp,hE.trans (by assumption),by unfold Hid;rw [HP.out];simp,IU⟩
    case measure=>simp [intOf];omega
theorem W0_ (xs:List Int) (v:Value) (g:Nat) (lb:Array Value) (p:Int->Bool) (w:World) (h:au w v xs) (eg:∀ args w,(callFunc g args).run prog w=.ok (.enter g args) w) (hp:Z0V g lb p w xs) :
  oW 57 #[v,.func (.func g) #[] lb] w (.bool (xs.any p)):=by
 have hcall:=X5_ xs v g lb p w h eg hp;cases hf:xs.findIdx? p with
 | none =>
  have HR:Hid (xs.any p=false):=by
   unfold Hid;rw [List.findIdx?_eq_none_iff] at hf;simpa using hf
  unfold gT at hcall;rw [hf] at hcall;have HCALL:=n8 hcall;clear hcall hf hp h
  go_enter func57,ntmps57
  go_wp2_with (go_at_call 116;refine HCALL.mono ?_;rintro e w' ⟨rfl,wM⟩);go_ret;rw [HR.out];exact ⟨rfl,by assumption⟩
 | some i =>
  have HR:Hid (xs.any p=true):=by
   unfold Hid;rw [List.any_eq_true];obtain ⟨hi,AD,_⟩:=List.findIdx?_eq_some_iff_getElem.1 hf;exact ⟨_,List.getElem_mem hi,AD⟩
  have wJ:(0:Int)<=(i:Int):=by omega
  unfold gT at hcall;rw [hf] at hcall;have HCALL:=n8 hcall;clear hcall hf hp h
  go_enter func57,ntmps57
  go_wp2_with (go_at_call 116;refine HCALL.mono ?_;rintro e w' ⟨rfl,wM⟩);go_ret;rw [HR.out];exact ⟨rfl,by assumption⟩
theorem Z1G (n:Int) (w:World):Calls prog 105 #[.int .i64 n] w fun e w'=>e=.returned (.bool (!dB n))/\w=w':=by
 by_cases h:n<=1000000000
 ·by_cases h2:-1000000000<=n
  ·go_enter func105,ntmps105
   go_wp2
   go_ret;exact ⟨by simp [dB,h,h2];try omega,rfl⟩
  ·go_enter func105,ntmps105
   go_wp2
   go_ret;exact ⟨by simp [dB,h,h2];try omega,rfl⟩
 ·go_enter func105,ntmps105
  go_wp2
  go_ret;exact ⟨by simp [dB,h];try omega,rfl⟩
def gw (n:Nat):List (List Int)->Int
 | []=>0
 | r::l=>if 12<r.length then 4 else if r.length=n then (if r.any (fun x=>!dB x) then 4 else gw n l) else 5
def bw (xss:List (List Int)):Int:=if 12<xss.length then 4 else gw (xss.headD []).length xss
theorem W6_ (xss:List (List Int)) (v:Value) (w:World) (h:bQ w v xss) :
  oW 53 #[v] w (.int .i64 (bw xss)):=by
 obtain ⟨a,c,rfl,h1,h2,-,hc⟩:=bT.open h;have HC:=n8 hc;unfold maxLen at h2;clear h hc;by_cases hl:12<xss.length
 ·have HT:Hid (bw xss=4):=by unfold Hid bw;rw [if_pos hl]
  have ya:(12:Int)<(xss.length:Int):=by omega
  go_enter func53,ntmps53
  go_wp2_with fail;go_ret;exact ⟨by rw [HT.out];rfl,aC.refl _⟩
 ·have HT:Hid (bw xss=gw (xss.headD []).length xss):=by unfold Hid bw;rw [if_neg hl]
  have ya:¬ (12:Int)<(xss.length:Int):=by omega
  obtain ⟨n,hn⟩:∃ n,n=(xss.headD []).length:=⟨_,rfl⟩;rw [<- hn] at HT;have HN:=n8 hn;clear hn
  go_enter func53,ntmps53
  go_wp2_with fail
  go_loopw [10] (fun t wr=>∃ j:Nat,j<=xss.length/\t=.int .i64 j/\aC w wr/\Hid (bw xss=gw n (xss.drop j))) (fun t _=>xss.length-(intOf t).toNat)
  case atStart=>exact ⟨0,by omega,rfl,aC.refl _,HT⟩
  case round =>
   obtain ⟨j,hj,rfl,hE,HD⟩:=hrel;obtain ⟨wo,rfl⟩:∃ wo:World,wo=wr:=⟨_,rfl⟩;have HE:=n8 hE;by_cases hlt:j<xss.length
   ·obtain ⟨b,off,rfl,hb,hcell⟩:=HC (by intro e;simp [e] at hlt);obtain ⟨xs,hx⟩:∃ x,xss[j]?=some x:=⟨xss[j],n9 hlt⟩;obtain ⟨ys,hy⟩:∃ y,xss[0]?=some y:=⟨xss[0]'(by omega),n9 _⟩;have vZ:ys.length=n:=by
     rw [HN.out];cases xss with
     | nil=>simp at hlt
     | cons z t=>simp at hy;rw [hy];rfl
    obtain ⟨vx,qh,pG⟩:=hcell j xs hx;obtain ⟨vy,wW,tb⟩:=hcell 0 ys hy;rw [Nat.add_zero] at tb;obtain ⟨ax,cx,rfl,-,-,-,-,-⟩:=au.open qh;obtain ⟨ay,cy,rfl,-,-,-,-,-⟩:=au.open wW;rw [vZ] at tb;have g1:=hE.cell pG;have g2:=hE.cell tb;have HX:=n8 (au.ext qh hE);have HDS:Hid (bw xss=if 12<xs.length then 4 else if xs.length=n then (if xs.any (fun x=>!dB x) then 4 else gw n (xss.drop (j+1))) else 5):=by
     unfold Hid;rw [HD.out,K8_ hx];rfl
    have pK:0<xss.length:=by omega
    have HANY:=n8 (fun W he=>W0_ xs _ 105 #[] (fun x=>!dB x) W (HX.ext (w':=W) he) (enters_of func105 (by kernel_rfl) rfl) (fun W x _ _=>(Z1G x W).mono fun _ _ ⟨he,hw⟩=>⟨he,hw▸aC.refl _⟩));clear hcell hx hy vZ qh wW pG tb hE;by_cases q1:12<xs.length
    ·have q2:(12:Int)<(xs.length:Int):=by omega
     rw [if_pos q1] at HDS;go_wp2_with fail;go_ret;exact ⟨by rw [HDS.out];rfl,HE⟩
    ·have q2:¬ (12:Int)<(xs.length:Int):=by omega
     rw [if_neg q1] at HDS;by_cases q3:xs.length=n
     ·rw [if_pos q3] at HDS;have q4:((xs.length:Int) != (n:Int))=false:=by simp [q3]
      cases vk:xs.any (fun x=>!dB x) with
      | true =>
       rw [vk,if_pos rfl] at HDS;rw [vk] at HANY;clear q3 vk;go_wp2_with fail;refine (HANY _ (aC.refl _)).mono ?_;rintro e w1 ⟨rfl,hE1⟩;have HE1:=n8 (aC.trans HE hE1);clear hE1 HANY;go_wp2_with fail;go_ret;exact ⟨by rw [HDS.out];rfl,HE1⟩
      | false =>
       rw [vk,if_neg Bool.false_ne_true] at HDS;rw [vk] at HANY;clear q3 vk;go_wp2_with fail;refine (HANY _ (aC.refl _)).mono ?_;rintro e w1 ⟨rfl,hE1⟩;have HE1:=n8 (aC.trans HE hE1);clear hE1 HANY;go_wp2_with fail;go_roundw
       case rel=>exact ⟨j+1,by omega,by go_num,HE1,HDS⟩
       case measure=>simp [intOf];omega
     ·rw [if_neg q3] at HDS;have q4:((xs.length:Int) != (n:Int))=true:=by simp;omega
      clear q3;go_wp2_with fail;go_ret;exact ⟨by rw [HDS.out];rfl,HE⟩
   ·obtain rfl:j=xss.length:=by omega
    have HF:Hid (bw xss=0):=by unfold Hid;rw [HD.out,List.drop_length];rfl
    clear HD hE;go_wp2_with fail;go_ret;exact ⟨by rw [HF.out];rfl,HE⟩
def bY (xss:List (List Int)):Nat:=(xss.headD []).length
theorem n1_ (n:Nat):∀ xss,gw n xss=0->∀ r∈xss,r.length=n/\r.length<=12/\∀ x∈r,-1000000000<=x/\x<=1000000000
 | [],_,r,hr=>by simp at hr
 | q::l,h,r,hr=>by
  unfold gw at h
  split at h
  ·cases h
  ·split at h
   ·split at h
    ·cases h
    ·rename_i h1 h2 h3;rcases List.mem_cons.1 hr with rfl | hr
     ·refine ⟨h2,by omega,fun x hx=>?_⟩;rw [<- z5_];simp only [List.any_eq_true,Bool.not_eq_true',not_exists,not_and,Bool.not_eq_false] at h3;exact h3 x hx
     ·exact n1_ n l h r hr
   ·cases h
theorem ke {xss:List (List Int)} (h:bw xss=0):xss.length<=12/\∀ r∈xss,r.length=bY xss/\r.length<=12/\∀ x∈r,-1000000000<=x/\x<=1000000000:=by
 unfold bw at h
 split at h
 ·cases h
 ·exact ⟨by omega,n1_ _ xss h⟩
theorem i3_ (xss:List (List Int)):jA xss (fun _=>[]) xss.length=bJ xss:=by
 unfold jA bJ;apply List.ext_getElem
 ·simp
 ·intro i h1 h2;simp only [List.length_map,List.length_range] at h1;simp [h1]
theorem m3_ (xss:List (List Int)) (v:Value) (w:World) (h:bQ w v xss) :
  Calls prog 106 #[v] w fun e w'=>e=.returned (.int .i64 (bY xss:Int))/\w=w':=by
 obtain ⟨a,c,rfl,h1,h2,-,hc⟩:=bT.open h;clear h;unfold maxLen at h2;cases xss with
 | nil =>
  clear hc
  go_enter func106,ntmps106
  go_wp2
  go_ret;exact ⟨rfl,rfl⟩
 | cons r l =>
  obtain ⟨b,off,rfl,hb,hcell⟩:=hc (by simp);obtain ⟨vx,qh,pG⟩:=hcell 0 r rfl;obtain ⟨ax,cx,rfl,-,-,-,-,-⟩:=au.open qh;rw [Nat.add_zero] at pG;obtain ⟨m,hm⟩:∃ m,m=(r::l).length:=⟨_,rfl⟩;have hq:((m:Int) == 0)=false:=by rw [beq_eq_false_iff_ne,hm,List.length_cons];omega
  have pK:(0:Int)<(m:Int):=by rw [hm,List.length_cons];omega
  have HCN:Hid (bY (r::l)=r.length):=rfl;rw [<- hm] at h1 |-;clear hc hcell qh hm
  go_enter func106,ntmps106
  go_wp2
  go_ret;rw [HCN.out];exact ⟨rfl,rfl⟩
theorem j5_ (v:Value) (w:World) (hv:∃ a n c,v=.slice a n c) :
  oW 109 #[v,.int .i64 0] w (.tuple #[.slice none 0 0,bW 1]):=by
 obtain ⟨a,n,c,rfl⟩:=hv;obtain ⟨W1,rU,hE1,hs1,hb1⟩:=dr w (.string ⟨#[]⟩) (.string ⟨#[]⟩) 152;have HE1:=n8 hE1;have HB1:Hid (∀ W,aC W1 W->ah w.heap.size W):=fun W hW=>ah.ext ⟨_,_,hb1⟩ hW;obtain ⟨r0,r1,rf⟩:=dp hb1;clear hE1 hb1 rf
 go_enter func109,ntmps109
 go_wp2_with fail;refine (b0_ _).mono ?_;rintro e w2 ⟨rfl,oY⟩;have HE2:=n8 oY;obtain ⟨q0,q1,t0,t1,f0,f1⟩:=(HB1 _ oY).open;have hbx:=(HB1 _ oY);rw [x5_];have sW:Hid (dE ((w2.setCell ⟨w.heap.size,0,none⟩ (.string ⟨#[49]⟩)).setCell ⟨w.heap.size,1,none⟩ (.string ⟨#[49]⟩)) w.heap.size 1):=by
  have:=hbx.res (x:=.string ⟨#[49]⟩) (y:=.string ⟨#[49]⟩);unfold Hid dE;rw [this];show some (Obj.cells #[.string ⟨#[49]⟩,.string ⟨#[49]⟩] 152 (0,0))=some (Obj.cells #[.string (aD 1),.string (aE 1)] 152 (0,0));rw [nJ,lI]
 have HX:Hid (aC w ((w2.setCell ⟨w.heap.size,0,none⟩ (.string ⟨#[49]⟩)).setCell ⟨w.heap.size,1,none⟩ (.string ⟨#[49]⟩))):=eH (HE1.trans oY) (oJ _);clear oY hbx r0 r1;go_wp2_with fail;clear q0 q1 t0 t1 f0 f1;refine wp_loop_once ?_;obtain ⟨W3,xU⟩:∃ W3,W3=((w2.setCell ⟨w.heap.size,0,none⟩ (.string ⟨#[49]⟩)).setCell ⟨w.heap.size,1,none⟩ (.string ⟨#[49]⟩)):=⟨_,rfl⟩;rw [<- xU] at sW HX |-;clear xU;obtain ⟨b0,b1,b2,b3⟩:=sW.cells;rw [show (1:Rat).num=1 from rfl,nJ] at b0;rw [show (1:Rat).den=1 from rfl,lI] at b1;have HSET:=n8 ((sW.ext (aC.drew W3)).set 1);have HX2:Hid (aC w ((W3.drew.setCell ⟨w.heap.size,0,none⟩ (.string ⟨#[49]⟩)).setCell ⟨w.heap.size,1,none⟩ (.string ⟨#[49]⟩))):=eH (HX.trans (aC.drew _)) (oJ _);rw [show (1:Rat).num=1 from rfl,show (1:Rat).den=1 from rfl,nJ,lI] at HSET;go_wp2_with fail
 go_region
 all_goals
  go_wp2_with fail;refine bodyPost_ret (X6_ (by rfl) _ _ w.heap.size 152 #[.string (aD 1),.string (aE 1)] (0,0) _ (.slice none 0 0) (by rfl) (by rfl) HSET underlying152 (by rfl) (by kernel_rfl)) (by rfl) ⟨rfl,HX2⟩
theorem bO.toMat {e:TypeId} {w:World} {ob base:Nat} {u:Value} {tags:List (Nat×Nat)} {m:List (List Rat)} (h:bO kU e w ob base u tags m) (hob:base<=ob) (pK:0<m.length) :
  ∃ g cap,u=.slice (some ⟨g,0,none⟩) m.length cap/\dH w g tags m/\m.length<=cap/\cap<=9223372036854775807/\∀ b,bZ g tags b->base<=b:=by
 obtain ⟨g,cap,rfl,-⟩:=iz h.own pK;obtain ⟨h1,h2,h3,h4⟩:=h.matQ hob;exact ⟨g,cap,rfl,h1,h2,h3,h4⟩
theorem bO.form {α:Type} {K:gL α} {e:TypeId} {w:World} {ob base:Nat} {u:Value} {tags:List (Nat×Nat)} {m:List (List α)} (h:bO K e w ob base u tags m):∃ a n c,u=.slice a n c:=by
 rcases h.own.2 with ⟨rfl,hn⟩ | ⟨g,cap,cur,rfl,hb,hg,h1,h2,h3,h4⟩
 ·exact ⟨_,_,_,rfl⟩
 ·exact ⟨_,_,_,rfl⟩
structure Z6k (wb w1 w':World) (u v:Value) (oZ:List (Nat×Nat)) (m:List (List Rat)) (n:Nat):Prop where
 lead:ck w1.heap.size w' v (aj m n).lead
 ext:aC wb w'
 low:wb.heap.size<=w1.heap.size
 keep:aP (fun b=>b∈oZ.map (·.1)\/u.ownBlock=some b) w1 w'
 mat:m≠[]->∃ g tags cap,u=.slice (some ⟨g,0,none⟩) m.length cap/\dH w' g tags (aj m n).m/\m.length<=cap/\cap<=9223372036854775807/\∀ b,bZ g tags b->wb.heap.size<=b
theorem G9_ (m:List (List Rat)) (n C:Nat) (u:Value) (tags:List (Nat×Nat)) (wb w1:World) (hO:bO kU 197 w1 wb.heap.size wb.heap.size u tags m) (tC:aC wb w1) (hC:bg C m) (hn:n<=C) (By:C<=1000) (hl:m.length<=1000)
  (hok:∀ c,c<n->h_ 2500 (aj m c).m/\RS 9000 (aj m c).det) (ht:af wb) (hz:m=[]->n=0) :
  Calls prog 109 #[u,.int .i64 (n:Int)] w1 fun e w'=>∃ v,e=.returned (.tuple #[v,bW (aj m n).det])/\Z6k wb w1 w' u v tags m n:=by
 by_cases hm:m=[]
 ·obtain rfl:=hz hm;refine (j5_ u w1 hO.form).mono ?_;rintro e w' ⟨rfl,hE⟩;exact ⟨_,rfl,ck.nil _ _,tC.trans hE,tC.size,hE.grownS _,fun h=>absurd hm h⟩
 ·obtain ⟨g,cap,rfl,h1,h2,h3,h4⟩:=hO.toMat (oJ _) (List.length_pos_iff.2 hm);refine (Z0E m g cap n C tags wb w1 h1 hC hn By hl h2 h3 hok tC ht h4).mono ?_;rintro e w' ⟨v,tags',rfl,k1,k2,k3,k4⟩
  exact ⟨v,rfl,k1,Below.trans tC (k4.belowE (B:=wb.heap.size) h4 tC.size),tC.size,k4.weak (fun b _ hb=>by
   rcases List.mem_cons.1 hb with rfl | hb
   ·exact .inr rfl
   ·exact .inl hb),fun _=>⟨g,tags',cap,rfl,k2,h2,h3,fun b hb=>h4 b ((k3 b).1 hb)⟩⟩
end Go.Proofs.YtjlkkofmojgipaaGreatDoor
namespace Go.Proofs.YtjlkkofmojgipaaGreatDoor
open Go.RowKit Go.Shelf Go.Proofs.Tryz
structure fZ (T:TypeId) (A B:World):Prop where
 size:A.heap.size<=B.heap.size
 same:∀ (b:Nat) C fr,A.heap[b]?=some (.cells C T fr)->B.heap[b]?=some (.cells C T fr)
theorem fZ.refl (T:TypeId) (A:World):fZ T A A:=⟨oJ _,fun _ _ _ h=>h⟩
theorem fZ.trans {T:TypeId} {A B C:World} (h:fZ T A B) (k:fZ T B C):fZ T A C:=⟨oI h.size k.size,fun b C fr hb=>k.same b C fr (h.same b C fr hb)⟩
def AbT {β:Type} (B:Nat) (T:TypeId) (J:β->World->Prop):Prop :=
 ∀ s W W' row,J s W->W.grownBy W' row->(∀ r,row=some r->B<=r/\∃ o:Obj,W.heap[r]?=some o/\(o.isCells=false\/∃ C fr,o=.cells C T fr))->J s W'
def AbC {β:Type} (B:Nat) (T:TypeId) (J:β->World->Prop):Prop :=
 ∀ s W W' row,J s W->W.grownBy W' row->(∀ r,row=some r->B<=r/\∃ C fr,W.heap[r]?=some (.cells C T fr))->J s W'
structure jg (T:TypeId) (W:World) (v:Value) (s:List Nat):Prop where
 at_:∃ g C fr,v=.slice (some ⟨g,0,none⟩) s.length s.length/\W.heap[g]?=some (.cells C T fr)/\∀ (j:Nat) x,s[j]?=some x->W.cell? ⟨g,j,none⟩=some (.int .i64 (x:Int))
theorem jg.keep {T:TypeId} {W W':World} {v:Value} {s:List Nat} (h:jg T W v s) (hk:fZ T W W'):jg T W' v s:=by
 obtain ⟨g,C,fr,h1,h2,h3⟩:=h.at_;refine ⟨g,C,fr,h1,hk.same g C fr h2,fun j x hx=>?_⟩;have hb:W'.heap[g]?=W.heap[g]?:=(hk.same g C fr h2).trans h2.symm;have:=h3 j x hx;unfold World.cell? at this |-;rw [hb];exact this
def j5 (F:Fence) (n:Nat) (P:Program) (g:Nat) (lb:Array Value) (T:TypeId) (L:List (List Nat)) (w:World):Prop :=
 ∀ (l:Nat) (J:Nat->World->Prop) (W:World),Below w.heap.size w W->AbC W.heap.size T J ->
  (∀ i s v W1,L[i]?=some s->J i W1->jg T W1 v s->YieldAt F (n-1) P l #[v] W1 fun e W'=>e=.returned (.bool true)/\J (i+1) W'/\fZ T W1 W') ->
  J 0 W->CallsIn F n P g (#[.func (.yield l) #[] #[]]++lb) W fun e W'=>(∃ v,e=.returned v)/\J L.length W'
theorem j5.inRound {F:Fence} {n:Nat} {P:Program} {g:Nat} {lb:Array Value} {T:TypeId} {L:List (List Nat)} {w:World} (l:Nat) (h:j5 F n P g lb T L w):j5 (F.inRound l) n P g lb T L w:=h
def fk (fn:FuncId) (tmps:Array Value) (ps:Array Tmp) (assign body:Code) (dd:Nat) (st:LoopState):Loop:={ state:=st,pending:=none,fn:=fn,tmps:=tmps,params:=ps,assign:=assign,body:=body,defers:=dd }
theorem r1_ {B:Nat} {T:TypeId} {W:World} {l:Nat} {r:Loop} (hl:W.heap[l]?=some (.loop r)) (o:Obj):fZ T W (W.putObj l o) :=
 ⟨by simp,fun b C fr hb=>by
  rw [World.putObj_heap_other]
  ·exact hb
  ·intro e;subst e;rw [hl] at hb;simp at hb⟩
theorem J4_ {T:TypeId} {W W':World} {row:Option Nat} (hg:W.grownBy W' row) {k:Nat} {o:Obj} (hk:W.heap[k]?=some o) (ho:o.isCells=false) (hr:∀ r,row=some r->∃ C fr,W.heap[r]?=some (.cells C T fr)):W'.heap[k]?=some o:=by
 refine (hg.block k (Array.getElem?_eq_some_iff.1 hk).1 fun e=>?_).trans hk;obtain ⟨C,fr,h⟩:=hr k e.symm;rw [hk] at h;cases h;simp [Obj.isCells] at ho
def B4_ (F:Fence) (n:Nat) (P:Program) (l B:Nat) (T:TypeId) (L:List (List Nat)) (I:Nat->World->Prop) (ps:Array Tmp) (tmps:Array Value) (assign body:Code):Prop :=
 ∀ i s v W,L[i]?=some s->I i W->jg T W v s->(∃ r,W.heap[l]?=some (.loop r)) ->
  assign.wpIn (F.inRound l) n P (Exit.then (fun a' Wa=>KeepsFrom B W Wa/\fZ T W Wa /\
   ∀ Wb,Wa.grownBy Wb (some l)->(∃ r,Wa.heap[l]?=some (.loop r))->(∃ r,Wb.heap[l]?=some (.loop r))->fZ T Wa Wb ->
    body.wpIn (F.inRound l) n P (fun e _ W3=>e=.normal/\KeepsFrom B Wb W3/\fZ T Wb W3/\I (i+1) W3) a' Wb) (fun _ _ _=>False))
   { tmps:=(ps.zip #[v]).foldl (fun t (p,u)=>t.setIfInBounds p u) tmps,defers:=[] } W
theorem H3_ {F:Fence} {n:Nat} {P:Program} {gf:Nat} {lb:Array Value} {T:TypeId} {L:List (List Nat)} {w0 W1:World} {l B dd:Nat} {fn:FuncId} {tmps:Array Value} {ps:Array Tmp} {assign body:Code} {I:Nat->World->Prop}
  (vg:F.fn fn) (wZ:j5 F n P gf lb T L w0) (hb1:Below w0.heap.size w0 W1) (hps:ps.size=1) (hB:B<=l) (MZ:B<=W1.heap.size) (hl:W1.heap[l]?=some (.loop (fk fn tmps ps assign body dd .ready)))
  (eD:Option Nat) (hD:∀ D,eD=some D->D≠l/\B<=D/\W1.heap[D]?=some (.deferred (some []))) (hI:AbT B T I) (h0:I 0 W1)
  (rD:B4_ F (n-1) P l B T L I ps tmps assign body) :
  CallsIn F n P gf (#[.func (.yield l) #[] #[]]++lb) W1 fun e W'=>(∃ v,e=.returned v)/\I L.length W'/\W'.heap[l]?=some (.loop (fk fn tmps ps assign body dd .ready))/\∀ D,eD=some D->W'.heap[D]?=some (.deferred (some [])):=by
 refine wZ l (fun i W=>I i W/\W.heap[l]?=some (.loop (fk fn tmps ps assign body dd .ready))/\∀ D,eD=some D->W.heap[D]?=some (.deferred (some []))) W1 hb1 ?_ ?_ ⟨h0,hl,fun D e=>(hD D e).2.2⟩
 ·rintro i A A' row ⟨k1,k2,k3⟩ hg hr;refine ⟨hI i A A' row k1 hg (fun r e=>?_),J4_ hg k2 rfl (fun r e=>(hr r e).2),fun D e=>J4_ hg (k3 D e) rfl (fun r e=>(hr r e).2)⟩;obtain ⟨h1,C,fr,h2⟩:=hr r e;exact ⟨oI MZ h1,_,h2,.inr ⟨C,fr,rfl⟩⟩
 ·rintro i s v W hs ⟨k1,k2,k3⟩ hv;have hy:=run_yield (P:=P) (args:=#[v]) k2 (by simp [fk,hps]);refine ⟨fn,_,assign,body,hy,roundIn_of_wpIn vg (wpIn_mono (rD i s v W hs k1 hv ⟨_,k2⟩) ?_)⟩;rintro e a' Wa hp;cases e with
  | normal =>
   obtain ⟨p1,p2,p3⟩:=hp;have m2:=p1.same _ _ hB k2 rfl;have m3:∀ D,eD=some D->Wa.heap[D]?=some (.deferred (some [])):=fun D e=>p1.same _ _ (hD D e).2.1 (k3 D e) rfl;have hlt:l<Wa.heap.size:=(Array.getElem?_eq_some_iff.1 m2).1;refine ⟨_,run_beginRound m2 rfl,?_⟩;have b2:(Wa.putObj l (.loop { fk fn tmps ps assign body dd .ready with state:=.busy })).heap[l]?=some (.loop { fk fn tmps ps assign body dd .ready with state:=.busy }):=World.putObj_heap_same hlt;have b3:∀ D,eD=some D->(Wa.putObj l (.loop { fk fn tmps ps assign body dd .ready with state:=.busy })).heap[D]?=some (.deferred (some [])):=fun D e=>(World.putObj_heap_other (hD D e).1).trans (m3 D e);have bk:=r1_ (B:=B) (T:=T) m2 (.loop { fk fn tmps ps assign body dd .ready with state:=.busy });refine wpIn_mono (p3 _ (grownBy_putObj' Wa l _) ⟨_,m2⟩ ⟨_,b2⟩ bk) ?_;rintro e a3 W3 ⟨rfl,q1,q2,q3⟩;have c2:=q1.same _ _ hB b2 rfl;have c3:∀ D,eD=some D->W3.heap[D]?=some (.deferred (some [])):=fun D e=>q1.same _ _ (hD D e).2.1 (b3 D e) rfl;have hr:=run_endRound (P:=P) none c2;have Fm:l<W3.heap.size:=(Array.getElem?_eq_some_iff.1 c2).1;refine ⟨_,_,hr,rfl,⟨?_,?_,fun D e=>(World.putObj_heap_other (hD D e).1).trans (c3 D e)⟩,?_⟩
   ·exact hI _ _ _ _ q3 (grownBy_putObj' W3 l _) (fun r e=>by cases e;exact ⟨hB,_,c2,.inl rfl⟩)
   ·rw [World.putObj_heap_same Fm];rfl
   ·exact p2.trans (bk.trans (q2.trans (r1_ (B:=B) c2 _)))
  | _=>exact hp.elim
theorem F2_ {F:Fence} {n:Nat} {P:Program} {g:Operand} {ps:Array Tmp} {assign body:Code} {Q:Exit->Act->World->Prop} {a:Act} {w:World}
  (FJ:F.round=none) (h1:1<=n) {gf:Nat} {lb:Array Value} (hg:a.eval g=.func (.func gf) #[] lb) (Gz:F.fn gf) (eg:∀ args w,(callFunc gf args).run P w=.ok (.enter gf args) w)
  {T:TypeId} {L:List (List Nat)} {w0:World} (wZ:j5 F (n-1) P gf lb T L w0) (sw:Below w0.heap.size w0 w) (hps:ps.size=1) (I:Nat->World->Prop) (hI:AbT w.heap.size T I) (h0:I 0 w)
  (rD:B4_ F (n-1-1) P (w.heap.size+1) w.heap.size T L I ps a.tmps assign body)
  (xP:∀ W,I L.length W->W.heap[w.heap.size]?=some (.deferred (some []))->Q .normal { a with defers:={ target:=.collected w.heap.size,args:=#[] }::a.defers } W) :
  (Code.rangeFunc g ps assign body).wpIn F n P Q a w:=by
 refine wpIn_rangeFunc ?_;intro fn vg;rw [FJ];obtain ⟨W1,rU⟩:∃ W1,(w.alloc (.deferred (some []))).alloc (.loop (fk fn a.tmps ps assign body w.heap.size .ready))=W1:=⟨_,rfl⟩;have hL1:W1.heap[w.heap.size+1]?=some (.loop (fk fn a.tmps ps assign body w.heap.size .ready)):=by
  rw [<- rU];have:=World.alloc_heap_new (w.alloc (.deferred (some []))) (.loop (fk fn a.tmps ps assign body w.heap.size .ready));rwa [World.size_alloc] at this
 have MP:W1.heap[w.heap.size]?=some (.deferred (some [])):=by
  rw [<- rU];exact (Below.heap_alloc _ _ _ (by simp)).trans (World.alloc_heap_new w _)
 have pq:Below w.heap.size w W1:=by
  rw [<- rU];exact ((Below.refl _ w).alloc (oJ _) _).alloc (by simp) _
 have Bw:I 0 W1:=hI 0 w W1 none h0 ⟨pq.os,pq.tape,pq.output,pq.size,fun k hk _=>pq.block k hk⟩ (fun r e=>by cases e)
 refine ⟨w.heap.size+1,[{ target:=.collected w.heap.size,args:=#[] }],W1,{ target:=.fn (.func gf) lb,args:=#[.func (.yield (w.heap.size+1)) #[] #[]] },W1,gf,
  #[.func (.yield (w.heap.size+1)) #[] #[]]++lb,W1,?_,?_,?_,?_,fun _=>h1,?_⟩
 ·rw [<- rU];exact run_enterLoop_outer _ _ _ _ _
 ·simp only [resolve,hg];simp [go_sem]
 ·intro f' C7;simp [Target.leads] at C7;subst C7;exact Gz
 ·simp [invoke,go_sem,eg]
 ·refine (H3_ vg wZ (sw.trans (pq.mono sw.size)) hps (by omega) pq.size hL1 (some w.heap.size) (fun D e=>by cases e;exact ⟨by omega,oJ _,MP⟩) hI Bw rD).mono ?_;rintro e W2 ⟨⟨v,rfl⟩,hi,hl,hk⟩;refine ⟨none,_,by have:=run_endLoop (P:=P) hl (by simp [fk]);exact this,xP _ (hI _ _ _ _ hi (grownBy_putObj' W2 _ _) (fun r e=>by cases e;exact ⟨by omega,_,hl,.inl rfl⟩)) ((World.putObj_heap_other (by omega)).trans (hk _ rfl))⟩
theorem G1_ {F:Fence} {n:Nat} {P:Program} {g:Operand} {ps:Array Tmp} {assign body:Code} {Q:Exit->Act->World->Prop} {a:Act} {w:World}
  {l₀:Nat} {r₀:Loop} (FJ:F.round=some l₀) (hl₀:w.heap[l₀]?=some (.loop r₀)) (h1:1<=n) {gf:Nat} {lb:Array Value} (hg:a.eval g=.func (.func gf) #[] lb) (Gz:F.fn gf) (eg:∀ args w,(callFunc gf args).run P w=.ok (.enter gf args) w)
  {T:TypeId} {L:List (List Nat)} {w0:World} (wZ:j5 F (n-1) P gf lb T L w0) (sw:Below w0.heap.size w0 w) (hps:ps.size=1) (I:Nat->World->Prop) (hI:AbT w.heap.size T I) (h0:I 0 w)
  (rD:B4_ F (n-1-1) P w.heap.size w.heap.size T L I ps a.tmps assign body)
  (xP:∀ W,I L.length W->Q .normal a W) :
  (Code.rangeFunc g ps assign body).wpIn F n P Q a w:=by
 refine wpIn_rangeFunc ?_;intro fn vg;rw [FJ];obtain ⟨W1,rU⟩:∃ W1,w.alloc (.loop (fk fn a.tmps ps assign body r₀.defers .ready))=W1:=⟨_,rfl⟩;have hL1:W1.heap[w.heap.size]?=some (.loop (fk fn a.tmps ps assign body r₀.defers .ready)):=by rw [<- rU];exact World.alloc_heap_new w _
 have pq:Below w.heap.size w W1:=by
  rw [<- rU];exact (Below.refl _ w).alloc (oJ _) _
 have Bw:I 0 W1:=hI 0 w W1 none h0 ⟨pq.os,pq.tape,pq.output,pq.size,fun k hk _=>pq.block k hk⟩ (fun r e=>by cases e)
 refine ⟨w.heap.size,[],W1,{ target:=.fn (.func gf) lb,args:=#[.func (.yield w.heap.size) #[] #[]] },W1,gf,
  #[.func (.yield w.heap.size) #[] #[]]++lb,W1,?_,?_,?_,?_,fun _=>h1,?_⟩
 ·rw [<- rU];exact run_enterLoop_inner hl₀ _ _ _ _ _
 ·simp only [resolve,hg];simp [go_sem]
 ·intro f' C7;simp [Target.leads] at C7;subst C7;exact Gz
 ·simp [invoke,go_sem,eg]
 ·refine (H3_ vg wZ (sw.trans (pq.mono sw.size)) hps (oJ _) pq.size hL1 none (fun D e=>by cases e) hI Bw rD).mono ?_;rintro e W2 ⟨⟨v,rfl⟩,hi,hl,-⟩;refine ⟨none,_,by have:=run_endLoop (P:=P) hl (by simp [fk]);exact this,xP _ (hI _ _ _ _ hi (grownBy_putObj' W2 _ _) (fun r e=>by cases e;exact ⟨oJ _,_,hl,.inl rfl⟩))⟩
attribute [local go_sem] Oper.semAt_some
theorem R8_ {F:Fence} {n:Nat} {P:Program} (w:World) {ops:Array Oper} {rest:List Oper} {o:Oper} {a:Act} {Q:Exit->Act->World->Prop}
  (hg:o.guard=none) (l c:Operand) (t:TypeId) (FZ:o.op=Op.makeSlice t l c)
  (base:Nat) (e:TypeId) (i:TypeInfo) (z:Value) (size:Nat) (h1:P.underlying t=some (.slice e)) (h2:P.info? e=some i) (h3:i.zero=some z) (h4:i.size=size)
  (kl kc:IntKind) (L C:Int) (m:Nat) (hl:a.eval l=.int kl L) (hc:a.eval c=.int kc C) (hL:L=(m:Int)) (hC:C=(m:Int)) (b2:i.bytes*m<=281474976710656) (b3:m<=maxLen) (b4:base<=w.heap.size)
  (hK:∀ w',w'.ownsRow base e size (.slice (some ⟨w.heap.size,0,none⟩) m m) m (madeCells z.cells (m*size)).toList->w.grownBy w' none->wpListIn F n P ops Q rest (a.put o.dst (.slice (some ⟨w.heap.size,0,none⟩) m m)) w') :
  wpListIn F n P ops Q (o::rest) a w:=by
 refine wpListIn_plain hg fun K MQ=>?_;obtain ⟨w',hrun,r1,r2⟩:=run_make_full (P:=P) w base t e i z size h1 h2 h3 h4 kl kc m b2 b3 b4;subst hL;subst hC;unfold Oper.wpIn;refine ⟨?_,?_⟩
 ·simp [Oper.about,FZ]
 ·rw [Oper.semAt_plain F _ _ (by rw [FZ];intro c qj;cases qj)];simp [execOp,FZ,hl,hc,hrun,Result.andThen];exact MQ _ _ (hK w' r1 r2)
def mC (l:List Nat):List Value:=l.map fun x:Nat=>Value.int .i64 (x:Int)
structure dG (J:Nat->World->Prop) (i:Nat) (B g k N B1 B2:Nat) (wr:World) (cur:List Nat):Prop where
 j:J i wr
 own:wr.ownsRow B 3 1 (.slice (some ⟨g,0,none⟩) k k) k (mC cur)
 b1:Boxed wr B1 3 (.int .i64 (k:Int))
 b2:Boxed wr B2 3 (.int .i64 (N:Int))
 lt1:B1<B
 lt2:B2<B
theorem dG.len {J:Nat->World->Prop} {i B g k N B1 B2:Nat} {wr:World} {cur:List Nat} (h:dG J i B g k N B1 B2 wr cur):cur.length=k:=by
 have:=h.own.1;unfold mC at this;rw [List.length_map] at this;omega
theorem dG.block {J:Nat->World->Prop} {i B g k N B1 B2:Nat} {wr:World} {cur:List Nat} (h:dG J i B g k N B1 B2 wr cur):∃ C,wr.heap[g]?=some (.cells C 3 (0,0))/\B<=g:=by
 rcases h.own.2 with ⟨hv,_⟩ | ⟨g',cap,C,hv,hb,hg,_⟩
 ·simp at hv
 ·simp only [Value.slice.injEq,Option.some.injEq,Addr.mk.injEq] at hv;obtain ⟨⟨rfl,-,-⟩,-,-⟩:=hv;exact ⟨C,hg,hb⟩
theorem dG.cell {J:Nat->World->Prop} {i B g k N B1 B2:Nat} {wr:World} {cur:List Nat} (h:dG J i B g k N B1 B2 wr cur) {j x:Nat} (hx:cur[j]?=some x):wr.cell? ⟨g,j,none⟩=some (.int .i64 (x:Int))/\wr.frozen? ⟨g,j,none⟩=false:=by
 have hj:=(n_.1 hx).1;have hl:=h.len;exact ⟨(h.own.cellAt j (by omega)).trans (by simp [mC,hx]),h.own.frozenAt j⟩
theorem dG.set {J:Nat->World->Prop} {i B g k N B1 B2:Nat} {wr:World} {cur:List Nat} (h:dG J i B g k N B1 B2 wr cur) (hJ:AbC B 3 J) (j x:Nat):dG J i B g k N B1 B2 (wr.setCell ⟨g,j,none⟩ (.int .i64 (x:Int))) (cur.set j x):=by
 obtain ⟨C,hC,hB⟩:=h.block;have hg:=eJ wr g j (.int .i64 (x:Int));have h1:=h.lt1;have h2:=h.lt2;refine ⟨hJ i wr _ _ h.j hg (fun r e=>by cases e;exact ⟨hB,C,_,hC⟩),?_,h.b1.kept hg (fun e=>by simp at e;omega),h.b2.kept hg (fun e=>by simp at e;omega),h.lt1,h.lt2⟩;unfold mC;rw [List.map_set];exact (h.own.stored j _).1
theorem dG.setAt {J:Nat->World->Prop} {i B g k N B1 B2:Nat} {wr:World} {cur:List Nat} (h:dG J i B g k N B1 B2 wr cur):jg 3 wr (.slice (some ⟨g,0,none⟩) k k) cur:=by
 obtain ⟨C,hC,hB⟩:=h.block;have hl:=h.len;exact ⟨g,C,(0,0),by rw [hl],hC,fun j x hx=>(h.cell hx).1⟩
theorem dG.round {J:Nat->World->Prop} {i B g k N B1 B2:Nat} {wr w':World} {cur:List Nat} (h:dG J i B g k N B1 B2 wr cur) (hj:J (i+1) w') (hk:fZ 3 wr w'):dG J (i+1) B g k N B1 B2 w' cur:=by
 refine ⟨hj,⟨h.own.1,?_⟩,hk.same _ _ _ h.b1,hk.same _ _ _ h.b2,h.lt1,h.lt2⟩;rcases h.own.2 with h' | ⟨g',cap,C,hv,hb,hg,rest⟩
 ·exact .inl h'
 ·exact .inr ⟨g',cap,C,hv,hb,hk.same _ _ _ hg,rest⟩
theorem dG.drawn {J:Nat->World->Prop} {i B g k N B1 B2:Nat} {wr:World} {cur:List Nat} (h:dG J i B g k N B1 B2 wr cur) (hJ:AbC B 3 J) (n:Nat):dG J i B g k N B1 B2 (wr.drewN n) cur:=by
 have hg:wr.grownBy (wr.drewN n) none:=(aC.drewN wr n).grown none;exact ⟨hJ i wr _ none h.j hg (fun r e=>by cases e),h.own.kept hg (by simp [Value.ownBlock]),h.b1.kept hg (by simp),h.b2.kept hg (by simp),h.lt1,h.lt2⟩
def Z6n (w:World) (g k:Nat):Nat:=jO ((List.range k).map fun j=>match w.cell? ⟨g,j,none⟩ with | some (.int _ x)=>x.toNat | _=>0)
theorem dG.enc {J:Nat->World->Prop} {i B g k N B1 B2:Nat} {wr:World} {cur:List Nat} (h:dG J i B g k N B1 B2 wr cur):Z6n wr g k=jO cur:=by
 unfold Z6n;congr 1;have hl:=h.len;apply List.ext_getElem
 ·simp [hl]
 ·intro j h1 h2;rw [List.getElem_map,List.getElem_range,(h.cell (n9 h2)).1];simp
def il (k i:Nat):List Nat:=List.range i++List.replicate (k-i) 0
theorem Z1N {k i:Nat} (h:i<k):(il k i).set i i=il k (i+1):=by
 unfold il;rw [List.set_append_right i i (by simp),List.length_range,show i-i=0 by omega,show k-i=(k-(i+1))+1 by omega,List.replicate_succ,List.set_cons_zero,List.range_succ,List.append_assoc];rfl
theorem Z1M {k i:Nat} (h:i<k):(il k i)[i]?=some 0:=by
 unfold il;rw [oN (by simp),List.length_range,show i-i=0 by omega,show k-i=(k-(i+1))+1 by omega,List.replicate_succ];rfl
theorem Z1L (k:Nat):il k k=List.range k:=by simp [il]
def fe (s:List Nat) (k i j:Nat):List Nat:=s.take i++((List.range (j-i)).map fun q=>s.getD i 0+1+q)++s.drop j
theorem Z3U {s:List Nat} {k i j:Nat} (hs:s.length=k) (qK:i<=j) (hj:j<=k):(fe s k i j).length=k:=by
 unfold fe;simp [hs];omega
theorem Z0h {s:List Nat} {k i:Nat} (hs:s.length=k) (hi:i<k):s.set i (s.getD i 0+1)=fe s k i (i+1):=by
 unfold fe;rw [show i+1-i=1 by omega];apply List.ext_getElem?;intro q;rw [oV];by_cases e:i=q
 ·subst e;rw [if_pos rfl,if_pos (by omega),List.append_assoc,oN (by simp;omega),oF,show i-min i s.length=0 by omega];rfl
 ·rw [if_neg e,List.append_assoc];by_cases hq:q<i
  ·rw [oM (by simp;omega),List.getElem?_take,if_pos hq]
  ·rw [oN (by simp;omega),oF,show q-min i s.length=(q-i-1)+1 by omega];simp [oT];congr 1;omega
theorem Z3T {s:List Nat} {k i j:Nat} (hs:s.length=k) (qK:i<j) (hj:j<=k):(fe s k i j)[j-1]?=some (s.getD i 0+(j-i)):=by
 unfold fe;rw [List.append_assoc,oN (by simp;omega),oF,oM (by simp;omega),show j-1-min i s.length=j-i-1 by omega,oE,List.getElem?_range (by omega)];simp;omega
theorem Z3V {s:List Nat} {k i j:Nat} (hs:s.length=k) (qK:i<j) (hj:j<k):∃ x,(fe s k i j)[j]?=some x:=by
 have:=Z3U (s:=s) (k:=k) (i:=i) (j:=j) hs (by omega) (by omega);exact ⟨_,n9 (by omega)⟩
theorem Z3W {s:List Nat} {k i j:Nat} (hs:s.length=k) (qK:i<j) (hj:j<k):(fe s k i j).set j (s.getD i 0+(j-i)+1)=fe s k i (j+1):=by
 unfold fe;have h1:(s.take i++((List.range (j-i)).map fun q=>s.getD i 0+1+q)).length=j:=by simp;omega
 rw [List.set_append_right _ _ (by omega),h1,show j-j=0 by omega,List.drop_eq_getElem_cons (by omega),List.set_cons_zero,show j+1-i=(j-i)+1 by omega,List.range_succ,List.map_append,List.append_assoc,List.append_assoc,List.append_assoc];simp;omega
theorem Z3S {s:List Nat} {n k i:Nat} (hs:s.length=k) (ht:jC n k s k=some i):kQ n k s=some (fe s k i k):=by
 unfold kQ fe;rw [ht,List.drop_eq_nil_of_le (by omega),List.append_nil]
theorem d9_ (n:Nat) (hn:1<=n) (N k:Nat) (Np:k<=N) (hN:N<=12) (L:List (List Nat)) (hL:Z5N N k L) (B1 B2:Nat) (w:World) (h1:Boxed w B1 3 (.int .i64 (k:Int))) (h2:Boxed w B2 3 (.int .i64 (N:Int))) :
  j5 Fence.wide n prog 158 #[.pointer (some ⟨B1,0,none⟩),.pointer (some ⟨B2,0,none⟩)] 3 L w:=by
 intro l J W hW hJ hY h0;obtain ⟨i0,hi,pH,hz1,hz2⟩:=info_parts kJ;have HI:=n8 hi;have HZ0:=n8 pH;have HZ1:=n8 hz1;have HZ2:=n8 hz2;have hb1:Boxed W B1 3 (.int .i64 (k:Int)):=(hW.block B1 h1.lt).trans h1;have hb2:Boxed W B2 3 (.int .i64 (N:Int)):=(hW.block B2 h2.lt).trans h2;have HB1:=n8 hb1;have HB2:=n8 hb2;have HJ:=n8 hJ;have HY:=n8 hY;have H0:=n8 h0;have HL:=n8 hL;have c1:=hb1.cell;clear hi pH hz1 hz2 h1 h2 hb1 hb2 hJ hY h0 hW;refine callsIn_of_wp func158 rfl trivial ?_ rfl;simp only [ntmps158,List.size_toArray,List.length_cons,List.length_nil,Nat.reduceAdd,Nat.reduceSub,Array.replicate_succ,Array.replicate_zero,List.push_toArray,List.append_toArray,List.nil_append,List.cons_append]
 gi_wp2_with (gi_at_make;refine R8_ _ rfl _ _ 26 rfl W.heap.size 3 i0 (.int .i64 0) 1 underlying26 HI HZ0 HZ1 _ _ _ _ k rfl rfl rfl rfl ?c1 ?c2 ?c3 ?_)
 any_goals (first | (rw [HZ2.out];omega) | (unfold maxLen;omega) | exact oJ _)
 intro w3 hown oe;rw [J7_] at hown;have HS0:Hid (dG J 0 W.heap.size W.heap.size k N B1 B2 w3 (il k 0)):=by
  refine ⟨HJ 0 W w3 none H0 oe (fun r e=>by cases e),?_,HB1.kept oe (by simp),HB2.kept oe (by simp),HB1.lt,HB2.lt⟩;have e:mC (il k 0)=(List.replicate (k*1) (0:Int)).map (Value.int .i64):=by simp [mC,il]
  rw [e];simpa using hown
 clear hown oe c1
 gi_wp2_with fail
 gi_loopw [12] (fun t wr=>∃ i:Nat,i<=k/\t=.int .i64 i/\Hid (dG J 0 W.heap.size W.heap.size k N B1 B2 wr (il k i))) (fun t _=>k-(intOf t).toNat)
 case atStart=>exact ⟨0,by omega,rfl,HS0⟩
 case round =>
  obtain ⟨i,hik,rfl,HS⟩:=hrel;by_cases hlt:i<k
  ·obtain ⟨c0,f0⟩:=HS.cell (Z1M hlt);have HN:=n8 (HS.set HJ i i);rw [Z1N hlt] at HN
   gi_wp2_with fail
   go_roundw
   case rel=>exact ⟨i+1,by omega,by go_num,HN⟩
   case measure=>simp [intOf];omega
  ·obtain rfl:i=k:=by omega
   rw [Z1L] at HS;clear HS0
   gi_wp2_with fail
   gi_loopw [6] (fun t wr=>∃ (q:Nat) (s:List Nat),L[q]?=some s/\Hid (dG J q W.heap.size W.heap.size i N B1 B2 wr s)) (fun _ wr=>1000000000000000000-Z6n wr W.heap.size i)
   case atStart=>exact ⟨0,_,HL.head,HS⟩
   case round =>
    obtain ⟨q,s,hq,HT⟩:=hrel;have HQ:=n8 hq;have HEN:=n8 HT.enc;have HBD:=n8 (HL.bd s (oD hq));have hsl:=HL.len s (oD hq);have HSL:=n8 hsl;have e1:=HT.b1.cell;have e2:=HT.b2.cell;obtain ⟨fn,tmps,assign,body,E3,hR⟩:=HY q s _ wr hq HT.j HT.setAt;have hle:(i:Int)<=(N:Int):=by omega
    clear hsl hq
    gi_wp2_with fail
    refine hR.mono ?_;rintro e W3 ⟨rfl,Jq,Fw⟩;have HT3:=n8 (HT.round Jq Fw);have d1:=HT3.b1.cell;have d2:=HT3.b2.cell;clear hR E3 e1 e2 Jq Fw;have p1:IntKind.i64.wrap ((i:Int)-1)=(i:Int)-1:=by rw [IntKind.wrap_i64];omega
    have p2:IntKind.i64.wrap ((N:Int)-(i:Int))=(N:Int)-(i:Int):=by rw [IntKind.wrap_i64];omega
    have OS:Hid (∀ m,dG J (q+1) W.heap.size W.heap.size i N B1 B2 (W3.drewN m) s):=fun m=>HT3.drawn HJ m
    gi_wp2_with fail
    gi_loopw [6] (fun t wr=>∃ (r:Nat) (x:Int),r<=i/\t=.int .i64 x/\x=(r:Int)-1/\Hid (dG J (q+1) W.heap.size W.heap.size i N B1 B2 wr s)/\Hid (jC N i s i=jC N i s r)) (fun t _=>(intOf t+1).toNat)
    case atStart=>exact ⟨i,(i:Int)-1,oJ _,rfl,rfl,HT3,rfl⟩
    case round =>
     obtain ⟨r,x,qD,rfl,hx,HT4,xf⟩:=hrel;clear d1 d2 p1;have e1:=HT4.b1.cell;have e2:=HT4.b2.cell;have HTD:Hid (∀ m,dG J (q+1) W.heap.size W.heap.size i N B1 B2 (wr.drewN m) s):=fun m=>HT4.drawn HJ m;cases r with
     | zero =>
      obtain rfl:x=-1:=by omega
      have HEND:Hid (q+1=L.length):=by
       have h1:kQ N i s=none:=by
        unfold kQ;have:jC N i s i=none:=xf.out;rw [this]
       have h2:=HL.next q s HQ
       rw [h1] at h2;have h3:=List.getElem?_eq_none_iff.1 h2.symm;have h4:=(n_.1 HQ).1;unfold Hid;omega
      clear hx
      gi_wp2_with fail
      gi_quiet (fail)
      gi_wp2_with fail
      refine bodyPost_ret (results_none rfl _ _ _) rfl ⟨⟨_,rfl⟩,?_⟩;rw [<- HEND.out];exact (HTD _).j
     | succ r =>
      obtain rfl:x=(r:Int):=by omega
      have qo:r<s.length:=by rw [HSL.out];omega
      obtain ⟨v,hv⟩:∃ v,s[r]?=some v:=⟨_,n9 qo⟩;have hvN:=HL.lt s (oD HQ) v (oD hv);obtain ⟨g1,g2⟩:=HT4.cell hv;have HV:=n8 hv;have pf:s.getD r 0=v:=by rw [oC,hv];rfl
      have HGD:=n8 pf;have p3:IntKind.i64.wrap ((N:Int)-(i:Int)+(r:Int))=(N:Int)-(i:Int)+(r:Int):=by rw [IntKind.wrap_i64];omega
      have p4:(0:Int)<=(r:Int):=by omega
      have p5:(r:Int)<(i:Int):=by omega
      by_cases qu:v+i=N+r
      ·have hq:((v:Int) == (N:Int)-(i:Int)+(r:Int))=true:=by rw [beq_iff_eq];omega
       have HT5:Hid (jC N i s i=jC N i s r):=by
        unfold Hid;rw [xf.out];show (if s.getD r 0+i=N+r then jC N i s r else some r)=_;rw [pf,if_pos qu]
       have p6:IntKind.i64.wrap ((r:Int)-1)=(r:Int)-1:=by rw [IntKind.wrap_i64];omega
       clear hx hv pf qu qo xf
       gi_wp2_with fail
       gi_quiet (fail)
       gi_wp2_with fail
       go_roundw
       case rel=>exact ⟨r,(r:Int)-1,by omega,by go_num,rfl,HTD _,HT5⟩
       case measure=>simp [intOf] <;> omega
      ·have hq:((v:Int) == (N:Int)-(i:Int)+(r:Int))=false:=by rw [beq_eq_false_iff_ne];omega
       have HT5:Hid (jC N i s i=some r):=by
        unfold Hid;rw [xf.out];show (if s.getD r 0+i=N+r then jC N i s r else some r)=_;rw [pf,if_neg qu]
       have p6:¬ (r:Int)<0:=by omega
       have p7:IntKind.i64.wrap ((v:Int)+1)=(v:Int)+1:=by rw [IntKind.wrap_i64];omega
       have p8:IntKind.i64.wrap ((r:Int)+1)=(r:Int)+1:=by rw [IntKind.wrap_i64];omega
       have HSET:Hid (∀ m,dG J (q+1) W.heap.size W.heap.size i N B1 B2 ((wr.drewN m).setCell ⟨W.heap.size,r,none⟩ (.int .i64 ((v:Int)+1))) (fe s i r (r+1))):=fun m=>by
        have:=(HTD m).set HJ r (v+1);rw [<- pf,Z0h HSL.out (by omega),pf] at this;exact this
       clear hx hv pf qu qo xf
       gi_wp2_with fail
       gi_quiet (fail)
       gi_wp2_with fail
       gi_loopw [7] (fun t wr=>∃ j:Nat,r<j/\j<=i/\t=.int .i64 (j:Int)/\Hid (dG J (q+1) W.heap.size W.heap.size i N B1 B2 wr (fe s i r j))) (fun t _=>i-(intOf t).toNat)
       case atStart=>exact ⟨r+1,by omega,by omega,by go_num,HSET _⟩
       case round =>
        obtain ⟨j,BW,yA,rfl,B5⟩:=hrel;clear g1 g2 e1 e2;have e1:=B5.b1.cell;by_cases hlt2:j<i
        ·obtain ⟨y,hy⟩:=Z3V (s:=s) HSL BW hlt2;have hz:=Z3T (s:=s) HSL BW yA;obtain ⟨g1,g2⟩:=B5.cell hy;obtain ⟨g3,g4⟩:=B5.cell hz;have hb1:=HL.lt s (oD HQ) v (oD HV);have HN:=n8 (B5.set HJ j (s.getD r 0+(j-r)+1));rw [Z3W HSL.out BW hlt2] at HN;obtain ⟨z,hzz⟩:∃ z,z=s.getD r 0+(j-r):=⟨_,rfl⟩;rw [<- hzz] at g3 HN;have hzb:z<100:=by rw [hzz,HGD.out];omega
         have HN2:Hid (dG J (q+1) W.heap.size W.heap.size i N B1 B2 (wr.setCell ⟨W.heap.size,j,none⟩ (.int .i64 ((z:Int)+1))) (fe s i r (j+1))):=HN.out;have p9:IntKind.i64.wrap ((z:Int)+1)=(z:Int)+1:=by rw [IntKind.wrap_i64];omega
         have NV:IntKind.i64.wrap ((j:Int)-1)=((j-1:Nat):Int):=by rw [IntKind.wrap_i64];omega
         have NU:IntKind.i64.wrap ((j:Int)+1)=(j:Int)+1:=by rw [IntKind.wrap_i64];omega
         have NT:(0:Int)<=((j-1:Nat):Int):=by omega
         have NS:((j-1:Nat):Int)<(i:Int):=by omega
         have NR:(j:Int)<(i:Int):=by omega
         clear hy hz hzz HN
         gi_wp2_with fail
         go_roundw
         case rel=>exact ⟨j+1,by omega,by omega,by go_num,HN2⟩
         case measure=>simp [intOf] <;> omega
        ·obtain rfl:j=i:=by omega
         have hnx:=HL.next q s HQ
         rw [Z3S HSL.out HT5.out] at hnx;have HNX:=n8 hnx.symm;have HUP:=n8 (HL.up q s _ HQ hnx.symm);have HE6:=n8 B5.enc;clear hnx
         gi_wp2_with fail
         go_roundw
         case rel=>exact ⟨q+1,_,HNX,B5⟩
         case measure =>
          have a1:=HEN.out;have a2:=HE6.out;have a3:=HUP.out;have a4:=HBD.out;omega
theorem Oper.wpIn_of_wp {P:Program} {l n:Nat} {o:Oper} {a:Act} {w:World} {K:Act->World->Prop} {Q:Exit->Act->World->Prop} (h1:∀ c,o.op≠.defer c) (h:o.wp P a w K Q):o.wpIn (Fence.wide.inRound l) n P a w K Q:=by
 unfold Oper.wp at h;unfold Oper.wpIn;refine ⟨fun _ _=>trivial,?_⟩;rw [show (Fence.wide.inRound l).round=some l from rfl,Oper.semAt_eq _ _ _ h1];generalize (execOp a.eval o).run P w=r at *
 have hd:(Fence.wide.inRound l).depth.isSome=true->1<=n:=fun e=>by simp [Fence.wide] at e
 cases r with
 | ok x w' =>
  cases x with
  | enter f args=>exact ⟨hd,CallsIn.inRound l (callsIn_wide.2 h)⟩
  | row r args =>
   refine ⟨hd,fun c cs _=>?_⟩;obtain ⟨v,w2,hr,hs⟩:=h c cs;exact ⟨v,w2,hr,stepsIn_wide.2 hs⟩
  | _=>first | exact h | exact False.elim h
 | halt x w'=>cases x <;> first | exact h | exact False.elim h
def y8_ (ops:Array Oper):Bool:=ops.all fun o=>match o.op with | .defer _=>false | _=>true
theorem q4_ {ops:Array Oper} (h:y8_ ops=true) {i:Nat} {o:Oper} (hi:ops[i]?=some o):∀ c,o.op≠.defer c:=by
 intro c hc;have:=Array.all_eq_true_iff_forall_mem.1 h o (Array.mem_of_getElem? hi);rw [hc] at this;cases this
theorem F3_ {P:Program} {l n:Nat} {ops:Array Oper} {Q:Exit->Act->World->Prop} (hn:y8_ ops=true) (hq:¬ LetsOut Q) {i:Nat} {K:Act->World->Prop} {a:Act} {w:World} (h:wpOp P ops Q i K a w):wpOpIn (Fence.wide.inRound l) n P ops Q i K a w:=by
 unfold wpOp at h;unfold wpOpIn;cases hi:ops[i]? with
 | none=>simpa [hi] using h
 | some o =>
  simp only [hi] at h |-
  split
  ·rename_i hw;simp only [hw,if_true] at h;rcases h with h | ⟨-,h⟩
   ·exact Oper.wpIn_of_wp (q4_ hn hi) h
   ·exact absurd h hq
  ·rename_i hw;simp only [hw] at h;exact ⟨fun _ _=>trivial,h⟩
theorem X7_ {P:Program} {l n:Nat} {md:Region.Mode} {ops:Array Oper} {Q:Exit->Act->World->Prop} (hn:y8_ ops=true) (hq:¬ LetsOut Q):∀ (f:Nat) (ls:Array Bool) (a:Act) (w:World),wpAny P md ops Q f ls a w->wpAnyIn (Fence.wide.inRound l) n P md ops Q f ls a w
 | 0,ls,a,w,h=>h
 | f+1,ls,a,w,h=>⟨h.1,fun i hi=>F3_ hn hq (wpOp_mono (fun a w k=>X7_ hn hq f _ a w k) (h.2 i hi))⟩
theorem h7_ {P:Program} {ops:Array Oper} {Q:Exit->Act->World->Prop} {md:Region.Mode} {S:World->Prop} {z:Nat} (i j:Nat) {o p:Oper} {f:Nat} {l:Array Bool} {a:Act} {w:World} (hr:Region.ready md ops l=[i,j]) (ho:ops[i]?=some o) (hp:ops[j]?=some p)
  (h1:∀ K:Act->World->Prop,Shut (∀ b u,S u->(S u->bL P md ops Q S z f (l.setIfInBounds i true) b u)->K b u)->if Region.wanted o (yielded ops a.tmps)=true then Oper.wp P o a w K Q else K (a.put o.dst undef) w)
  (h2:∀ K:Act->World->Prop,Shut (∀ b u,S u->(S u->bL P md ops Q S z f (l.setIfInBounds j true) b u)->K b u)->if Region.wanted p (yielded ops a.tmps)=true then Oper.wp P p a w K Q else K (a.put p.dst undef) w):bL P md ops Q S z (f+1) l a w:=by
 refine ⟨(fun e=>by rw [hr] at e;cases e),fun q hq=>?_⟩;rw [hr] at hq;rcases List.mem_cons.1 hq with rfl | hq
 ·exact wpOp_step ho fun K hK=>h1 K fun b u hS pV=>hK b u ⟨fun _=>hS,pV hS⟩
 ·obtain rfl:q=j:=by simpa using hq
  exact wpOp_step hp fun K hK=>h2 K fun b u hS pV=>hK b u ⟨fun _=>hS,pV hS⟩
theorem R0_ {P:Program} {l n:Nat} {ops:Array Oper} {Q:Exit->Act->World->Prop} (S:World->Prop) (z:Nat) {id:Nat} {a:Act} {w:World} (hm:P.follows .mixedOrders=true) (hn:y8_ ops=true) (hq:¬ LetsOut Q) (hS:S w.drew)
  (h:S w.drew->bL P .any ops Q S z ops.size (Array.replicate ops.size false) a w.drew):(Code.region id ops true).wpIn (Fence.wide.inRound l) n P Q a w :=
 wpIn_region_any hm (X7_ hn hq _ _ _ _ (B8_ _ _ _ _ (h hS)))
theorem Y4_ {P:Program} {l n:Nat} {ops:Array Oper} {rest:List Oper} {o:Oper} {a:Act} {w:World} {Q:Exit->Act->World->Prop} (hg:o.guard=none) (hd:∀ c,o.op≠.defer c)
  (h:∀ K:Act->World->Prop,(∀ a w,wpListIn (Fence.wide.inRound l) n P ops Q rest a w->K a w)->o.wp P a w K Q):wpListIn (Fence.wide.inRound l) n P ops Q (o::rest) a w :=
 wpListIn_plain hg fun K hK=>Oper.wpIn_of_wp hd (h K hK)
end Go.Proofs.YtjlkkofmojgipaaGreatDoor
namespace Go.Proofs.YtjlkkofmojgipaaGreatDoor
open Go.RowKit Go.Proofs.Tryz
theorem M8_:(prog.info? 27).map (fun i=>(i.zero,i.size,i.bytes))=some (some (.slice none 0 0),1,24):=by kernel_rfl
def gD (n i:Nat):List (List Int):=(List.range i).map fun k=>(List.replicate n (0:Int)).set k 1
theorem Z3E (n i:Nat):gD n (i+1)=gD n i++[(List.replicate n (0:Int)).set i 1]:=by
 unfold gD;rw [List.range_succ,List.map_append];rfl
theorem z7_ (n i:Nat):(gD n i).length=i:=by simp [gD]
theorem eE.ofOwn {w:World} {B g n c:Nat} {xs:List Int} (h:w.ownsRow B 3 1 (.slice (some ⟨g,0,none⟩) n c) n (xs.map (Value.int .i64 ·))):eE w g xs:=by
 have hl:=h.lt g (by simp [Value.ownBlock]);have hc:=h.cells (g:=g) (by simp [Value.ownBlock]);refine ⟨hl.2,fun j x hx=>?_,fun j=>h.frozenAt j⟩;have:=hc j (.int .i64 x) (by rw [oE,hx];rfl);rw [show (⟨g,0,none⟩:Addr).add j=⟨g,j,none⟩ by unfold Addr.add;split <;> simp_all] at this;exact this
theorem eE.set {w:World} {g:Nat} {xs:List Int} (h:eE w g xs) (k:Nat) (hk:k<xs.length) (y:Int):eE (w.setCell ⟨g,k,none⟩ (.int .i64 y)) g (xs.set k y):=by
 refine ⟨by rw [dX];exact h.lt,fun j x hj=>?_,fun j=>by rw [kI];exact h.free j⟩;rw [oV] at hj;by_cases e:k=j
 ·subst e;rw [if_pos rfl,if_pos hk] at hj;cases hj;exact World.cell?_setCell_same w _ _ (h.cell k _ (n9 hk))
 ·rw [if_neg e] at hj;rw [World.cell?_setCell_other _ _ _ _ (by intro e2;simp only [Addr.mk.injEq] at e2;omega)];exact h.cell j x hj
theorem eE.ext {w w':World} {g:Nat} {xs:List Int} (h:eE w g xs) (he:aC w w'):eE w' g xs:=h.same he.size (he.block g h.lt)
theorem H1_ (n:Nat) (hn:n<=12) (w:World) :
  Calls prog 83 #[.int .i64 n] w fun e w'=>∃ v tags,e=.returned v/\bO gE 27 w' w.heap.size w.heap.size v tags (gD n n)/\aC w w':=by
 obtain ⟨i0,hi,pH,hz1,hz2⟩:=info_parts kJ;have HI:=n8 hi;have HZ0:=n8 pH;have HZ1:=n8 hz1;have HZ2:=n8 hz2;clear hi pH hz1 hz2
 go_enter func83,ntmps83
 go_wp2_with fail
 go_loopw [4,3] (fun t v wr=>∃ (i:Nat) (tags:List (Nat×Nat)),i<=n/\t=.int .i64 i/\aC w wr/\Hid (bO gE 27 wr w.heap.size w.heap.size v tags (gD n i))) (fun t _ _=>n-(intOf t).toNat)
 case atStart=>exact ⟨0,[],by omega,rfl,aC.refl _,bO.nil _ _ _ _ _⟩
 case round =>
  obtain ⟨i,tags,hin,rfl,hE,HR⟩:=hrel;obtain ⟨wo,rfl⟩:∃ wo:World,wo=wr:=⟨_,rfl⟩;by_cases hlt:i<n
  ·go_wp2_with (at_make;refine wpList_make_full _ rfl _ _ 27 rfl wo.heap.size 3 i0 (.int .i64 0) 1 underlying27 HI HZ0 HZ1 _ _ _ _ n rfl rfl rfl rfl ?c1 ?c2 ?c3 ?_)
   any_goals (first | (rw [HZ2.out];omega) | (unfold maxLen;omega) | exact oJ _)
   intro w3 hown oe;rw [J7_] at hown;have hRI:=eE.ofOwn hown;have HE3:=n8 (jm oe);have hsz3:=hRI.lt;have HRI:=n8 hRI;have c0:=hRI.cell i 0 (by simp [hlt]);have f0:=hRI.free i;have HE4:Hid (aC wo (w3.setCell ⟨wo.heap.size,i,none⟩ (.int .i64 1))):=((HE3.grownS (·=wo.heap.size)).store (S:=(·=wo.heap.size)) rfl i (.int .i64 1)).belowE (fun k e=>by omega) (oJ _);have HRS:=n8 (hRI.set i (by simp [hlt]) 1);have hrl:((List.replicate n (0:Int)).set i 1).length=n:=by simp
   have HRL:=n8 hrl;have HO4:=n8 (HR.ext HE4);have HV:Hid (u3.ownBlock≠some wo.heap.size):=fun e=>by have:=(HR.own.lt _ e).2;omega
   have HN:Hid (wo.heap.size∉tags.map (·.1)):=fun e=>by have:=(HR.fresh e).2;omega
   have HSZ:Hid (w.heap.size<=(w3.setCell ⟨wo.heap.size,i,none⟩ (.int .i64 1)).heap.size/\w.heap.size<=wo.heap.size):=by
    have h1:=hE.size;have h2:=HE3.size;exact ⟨by rw [dX];omega,h1⟩
   have HLN:Hid ((gD n i).length<1000000):=by unfold Hid;rw [z7_];omega
   clear hown oe hRI hrl;go_wp2_with (at_builtin;go_must (refine n6 (K:=gE) (e:=27) underlying23 M8_ _ rfl _ _ rfl w.heap.size w.heap.size u3 tags (gD n i) (wo.heap.size,n) ((List.replicate n (0:Int)).set i 1) #[.slice (some ⟨wo.heap.size,0,none⟩) n n] 27 rfl HO4 (by rw [dX];rfl) ?d1 ?d2 ?d3 HRS HSZ.2 HV HN HLN HSZ.1 ?_))
   all_goals first | (rw [HRL.out];exact oJ _) | (show n<=_;omega) | (rw [HRL.out];rfl) | skip
   intro v' w5 qG hb5 _;have HO5:=n8 qG;rw [<- Z3E] at HO5;have HX5:=n8 (Below.trans (aC.trans hE HE4) hb5);clear qG hb5;go_wp2_with fail;go_roundw
   case rel=>exact ⟨i+1,_,by omega,by go_num,HX5,HO5⟩
   case measure=>simp [intOf];omega
  ·obtain rfl:i=n:=by omega
   go_wp2_with fail;go_ret;exact ⟨_,tags,rfl,HR,hE⟩
theorem U0_ {α:Type} {xs ys:List α} (hl:xs.length=ys.length) (h:∀ i,i<xs.length->xs[i]?=ys[i]?):xs=ys:=by
 apply List.ext_getElem?;intro i;by_cases hi:i<xs.length
 ·exact h i hi
 ·rw [oK (by omega),oK (by omega)]
theorem x6_ (xs ys:List Int) (u v:Value) (w:World) (h:au w u xs) (k:au w v ys) :
  oW 34 #[u,v] w (.bool (xs == ys)):=by
 obtain ⟨a,c,rfl,pq,rQ,-,-,hx⟩:=h.open;obtain ⟨a',c',rfl,rm,qg,-,-,hy⟩:=k.open;clear h k;unfold maxLen at rQ qg;by_cases hl:xs.length=ys.length
 ·have HX:=n8 hx;have HY:=n8 hy;have HL:=n8 hl;have hb:((xs.length:Int) != (ys.length:Int))=false:=by rw [hl];simp
  clear hx hy
  go_enter func34,ntmps34
  go_wp2
  go_loopw [5] (fun t wr=>∃ j:Nat,j<=xs.length/\t=.int .i64 j/\Hid (∀ i,i<j->xs[i]?=ys[i]?)/\aC w wr) (fun t _=>xs.length-(intOf t).toNat)
  case atStart=>exact ⟨0,by omega,rfl,fun i hi=>by omega,aC.refl _⟩
  case round =>
   obtain ⟨j,hj,rfl,HP,hE⟩:=hrel;by_cases hlt:j<xs.length
   ·obtain ⟨b,off,rfl,hb1,pJ⟩:=HX (by intro e;rw [e] at hlt;simp at hlt);obtain ⟨b',off',rfl,hb2,pT⟩:=HY (by intro e;have h0:=HL.out;rw [e] at h0;simp only [List.length_nil] at h0;omega);obtain ⟨x,hx⟩:∃ x,xs[j]?=some x:=⟨xs[j],n9 hlt⟩;obtain ⟨y,hy⟩:∃ y,ys[j]?=some y:=⟨ys[j]'(by omega),n9 _⟩;have g1:=hE.cell (pJ j x hx);have g2:=hE.cell (pT j y hy);have LZ:j<ys.length:=by omega
    clear pJ pT;by_cases hxy:x=y
    ·have hb3:(x != y)=false:=by rw [hxy];simp
     have HP2:Hid (∀ i,i<j+1->xs[i]?=ys[i]?):=fun i hi=>by
      by_cases e:i=j
      ·rw [e,hx,hy,hxy]
      ·exact HP i (by omega)
     clear hx hy hxy
     go_wp2
     go_quiet (fail)
     go_wp2
     go_roundw
     case rel=>exact ⟨j+1,by omega,by go_num,HP2,aC.draws hE _⟩
     case measure=>simp [intOf];omega
    ·have hb3:(x != y)=true:=by simpa using hxy
     have HQ:Hid ((xs == ys)=false):=by
      unfold Hid;rw [beq_eq_false_iff_ne];intro e;rw [e,hy] at hx;exact hxy (oL hx).symm
     clear hx hy hxy
     go_wp2
     go_quiet (fail)
     go_wp2
     go_ret;exact ⟨by rw [HQ.out];rfl,aC.draws hE _⟩
   ·have HQ:Hid ((xs == ys)=true):=by
     unfold Hid;rw [beq_iff_eq];exact U0_ HL fun i hi=>HP i (by omega)
    go_wp2
    go_ret;exact ⟨by rw [HQ.out];rfl,hE⟩
 ·have hb:((xs.length:Int) != (ys.length:Int))=true:=by simp;omega
  have HQ:Hid ((xs == ys)=false):=by
   unfold Hid;rw [beq_eq_false_iff_ne];intro e;exact hl (by rw [e])
  clear hx hy hl
  go_enter func34,ntmps34
  go_wp2
  go_ret;exact ⟨by rw [HQ.out];rfl,aC.refl _⟩
theorem x7_ (xs ys:List (List Int)) (u v:Value) (w:World) (h:bQ w u xs) (k:bQ w v ys) :
  oW 52 #[u,v] w (.bool (xs == ys)):=by
 obtain ⟨a,c,rfl,pq,rQ,-,hx⟩:=bT.open h;obtain ⟨a',c',rfl,rm,qg,-,hy⟩:=bT.open k;clear h k;unfold maxLen at rQ qg;by_cases hl:xs.length=ys.length
 ·have HX:=n8 hx;have HY:=n8 hy;have HL:=n8 hl;have hb:((xs.length:Int) != (ys.length:Int))=false:=by rw [hl];simp
  clear hx hy hl
  go_enter func52,ntmps52
  go_wp2
  go_loopw [5] (fun t wr=>∃ j:Nat,j<=xs.length/\t=.int .i64 j/\Hid (∀ i,i<j->xs[i]?=ys[i]?)/\aC w wr) (fun t _=>xs.length-(intOf t).toNat)
  case atStart=>exact ⟨0,by omega,rfl,fun i hi=>by omega,aC.refl _⟩
  case round =>
   obtain ⟨j,hj,rfl,HP,hE⟩:=hrel;obtain ⟨wj,rfl⟩:∃ wj:World,wj=wr:=⟨_,rfl⟩;by_cases hlt:j<xs.length
   ·obtain ⟨b,off,rfl,hb1,pJ⟩:=HX (by intro e;rw [e] at hlt;simp at hlt);obtain ⟨b',off',rfl,hb2,pT⟩:=HY (by intro e;have h0:=HL.out;rw [e] at h0;simp only [List.length_nil] at h0;omega);obtain ⟨x,hx⟩:∃ x,xs[j]?=some x:=⟨xs[j],n9 hlt⟩;obtain ⟨y,hy⟩:∃ y,ys[j]?=some y:=⟨ys[j]'(by have:=HL.out;omega),n9 _⟩;obtain ⟨p,hp,k1⟩:=pJ j x hx;obtain ⟨q,hq,k2⟩:=pT j y hy;have g1:=hE.cell k1;have g2:=hE.cell k2;have HC:Hid (∀ W,aC wj W->oW 34 #[p,q] W (.bool (x == y))):=fun W hW=>x6_ x y p q W (hp.ext (hE.trans hW)) (hq.ext (hE.trans hW));have LZ:j<ys.length:=by have:=HL.out;omega
    have vp:Hid ((x == y)=true->∀ i,i<j+1->xs[i]?=ys[i]?):=fun hxy i hi=>by
     by_cases e:i=j
     ·rw [e,hx,hy,beq_iff_eq.1 hxy]
     ·exact HP i (by omega)
    have xq:Hid ((x == y)=false->(xs == ys)=false):=fun hxy=>by
     rw [beq_eq_false_iff_ne] at hxy |-;intro e;rw [e,hy] at hx;exact hxy (oL hx).symm
    obtain ⟨bb,hbb⟩:∃ b,b=(x == y):=⟨_,rfl⟩;rw [<- hbb] at HC vp xq;clear pJ pT hx hy hp hq k1 k2 hbb;have HE0:Hid (aC wj wj.drew):=aC.drew wj
    go_upto_region 6 with fail
    go_cut [26] from 17 to 25 (fun s wx=>s=.bool (!bb)/\Hid (aC wj wx))
    case first =>
     go_region_held3 (fun w'=>w'.cell? ⟨b,off+j,none⟩=some p/\w'.cell? ⟨b',off'+j,none⟩=some q/\Hid (aC wj w'))
      (first | exact ⟨z1,z2,z3⟩ | exact ⟨g1,g2,HE0⟩ | go_keep)
      (first | (go_at_call 34;refine (HC _ (Hid.out (p:=aC wj _) (by assumption))).mono ?_;rintro e w5 ⟨rfl,ou⟩;have z1:=ou.cell (a:=⟨b,off+j,none⟩) (v:=p) (by assumption);have z2:=ou.cell (a:=⟨b',off'+j,none⟩) (v:=q) (by assumption);have z3:Hid (aC wj w5):=aC.trans (Hid.out (p:=aC wj _) (by assumption)) ou))
     all_goals (go_wp2_with fail;go_meet;exact ⟨rfl,by assumption⟩)
    case rest =>
     obtain ⟨rfl,HX5⟩:=hcut;cases bb
     ·have HQ:=xq rfl;have HQ2:=n8 HQ;clear HQ xq vp HC
      go_wp2
      go_ret;exact ⟨by rw [HQ2.out];rfl,hE.trans HX5⟩
     ·have HP2:=n8 (vp rfl);clear xq vp HC
      go_wp2
      go_roundw
      case rel=>exact ⟨j+1,by omega,by go_num,HP2,hE.trans HX5⟩
      case measure=>simp [intOf];omega
   ·have HQ:Hid ((xs == ys)=true):=by
     unfold Hid;rw [beq_iff_eq];exact U0_ HL fun i hi=>HP i (by omega)
    go_wp2
    go_ret;exact ⟨by rw [HQ.out];rfl,hE⟩
 ·have hb:((xs.length:Int) != (ys.length:Int))=true:=by simp;omega
  have HQ:Hid ((xs == ys)=false):=by
   unfold Hid;rw [beq_eq_false_iff_ne];intro e;exact hl (by rw [e])
  clear hx hy hl
  go_enter func52,ntmps52
  go_wp2
  go_ret;exact ⟨by rw [HQ.out];rfl,aC.refl _⟩
theorem eE.ints {w:World} {g c:Nat} {xs:List Int} (h:eE w g xs) (h1:xs.length<=c) (h2:c<=9223372036854775807) (hb:∀ x∈xs,-9223372036854775808<=x/\x<=9223372036854775807):au w (.slice (some ⟨g,0,none⟩) xs.length c) xs:=by
 refine ⟨xs.map fun x=>[Value.int .i64 x],by simp,by simp,?_,?_⟩
 ·rw [eI];refine ⟨_,c,rfl,h1,by unfold maxLen;omega,fun e=>by simp at e,fun _=>⟨g,0,rfl,h.lt,fun j u hu=>?_⟩⟩;rw [oE] at hu;obtain ⟨x,hx,rfl⟩:=Option.map_eq_some_iff.1 hu;rw [Nat.zero_add];exact h.cell j x hx
 ·intro j u x hu hx;simp only [oE,hx,Option.map_some,Option.some.injEq] at hu;exact ⟨hu.symm,hb x (oD hx)⟩
theorem bO.rows2 {e:TypeId} {w:World} {ob base:Nat} {v:Value} {tags:List (Nat×Nat)} {m:List (List Int)} (h:bO gE e w ob base v tags m) (hb:∀ r∈m,∀ x∈r,-9223372036854775808<=x/\x<=9223372036854775807):bQ w v m:=by
 have hl:=Z2Z (m:=m) h.len;refine ⟨(jB tags m).map fun u=>[u],by simp [hl],by simp,?_,?_⟩
 ·have:=dn.of_owns h.own;rw [eI (fun u:Value=>u),List.map_id'];exact this
 ·intro j u x hu hx;have hj:j<tags.length:=by rw [h.len];exact (n_.1 hx).1
  have ht:tags[j]?=some tags[j]:=n9 hj;obtain ⟨h1,h2,h3,-,-⟩:=h.row j _ x ht hx;rw [oE] at hu;unfold jB at hu;rw [List.getElem?_zipWith,ht,hx] at hu;simp only [Option.map_some,Option.some.injEq] at hu;exact ⟨_,hu.symm,eE.ints h3 h1 h2 (hb x (oD hx))⟩
theorem Z5V (n i:Nat):∀ r∈gD n i,∀ x∈r,-9223372036854775808<=x/\x<=(9223372036854775807:Int):=by
 intro r hr x hx;unfold gD at hr;obtain ⟨k,-,rfl⟩:=List.mem_map.1 hr;rcases List.mem_or_eq_of_mem_set hx with hx | rfl
 ·have:=List.eq_of_mem_replicate hx;omega
 ·omega
def bM (m:List (List Int)) (R C:List Nat):List (List Int):=R.map fun i=>C.map fun j=>(m.getD i []).getD j 0
theorem iN (m:List (List Int)) (R C:List Nat):(bM m R C).length=R.length:=by simp [bM]
theorem P8_ (m:List (List Int)) (R C:List Nat):bg C.length (bJ (bM m R C)):=by
 intro r hr;unfold bJ bM at hr;obtain ⟨q,hq,rfl⟩:=List.mem_map.1 hr;obtain ⟨i,-,rfl⟩:=List.mem_map.1 hq;simp [dN]
theorem Z5w {m:List (List Int)} {R C:List Nat} {i j a b:Nat} (hi:R[i]?=some a) (hj:C[j]?=some b):aH (bJ (bM m R C)) i j=(((m.getD a []).getD b 0:Int):Rat):=by
 refine z2_ ?_;rw [ng (r:=dN (C.map fun j=>(m.getD a []).getD j 0))]
 ·simp [dN,hj]
 ·simp [bJ,bM,hi]
end Go.Proofs.YtjlkkofmojgipaaGreatDoor
