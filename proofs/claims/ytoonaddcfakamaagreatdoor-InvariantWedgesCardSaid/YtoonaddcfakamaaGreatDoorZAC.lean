import Derived.Test.YtoonaddcfakamaaGreatDoorZAB
import Derived.Test.YtoonaddcfakamaaGreatDoorZAA
import Derived.WalkSmall
import Derived.IntWalk
import Derived.OwnWalk
import Derived.Lib.ConvBytes
import Derived.RegionTactic
import Derived.ChangeAlike
set_option linter.unusedVariables false
set_option linter.unusedSimpArgs false
set_option maxRecDepth 1000000
set_option maxHeartbeats 4000000
namespace Go.Proofs.YtoonaddcfakamaaGreatDoor
open Go.RowKit Go.Proofs.Tryz
theorem jq:(prog.info? 197).map (fun i=>(i.zero,i.size,i.bytes))=some (some (.int .u64 0),1,8):=by kernel_rfl
theorem Z5y:(prog.info? 5).map (fun i=>(i.zero,i.size,i.bytes))=some (some (.int .u8 0),1,1):=by kernel_rfl
def pcV (x:Nat):Value:=.int .u64 x
def aV (B:Nat) (w:World) (v:Value) (l:List Nat):Prop:=w.ownsRow B 197 1 v l.length (l.map pcV)
def pcR (_:World) (u:List Value) (x:Nat):Prop:=u=[pcV x]
theorem pcR.mono:iE pcR:=fun _ _ _ _ _ h=>h
abbrev dG (w:World) (v:Value) (l:List Nat):Prop:=aN 1 pcR w v l
theorem dG.ext {w w':World} {v:Value} {l:List Nat} (h:dG w v l) (he:aA w w'):dG w' v l:=aN.ext pcR.mono h he
theorem aV.at {B:Nat} {w:World} {v:Value} {l:List Nat} (h:aV B w v l):dG w v l:=by
 refine ⟨l.map fun x=>[pcV x],by simp,by simp,?_,?_⟩
 ·have:=dN.of_owns h
  rwa [eR]
 ·intro j u x hu hx;simp only [oh,hx,Option.map_some,Option.some.injEq] at hu;exact hu.symm
theorem aV.ext {B:Nat} {w w':World} {v:Value} {l:List Nat} (h:aV B w v l) (he:aA w w'):aV B w' v l:=et h he
theorem aV.form {B:Nat} {w:World} {v:Value} {l:List Nat} (h:aV B w v l):∃ a cap,v=.slice a l.length cap/\l.length<=cap/\cap<=9223372036854775807/\(l≠[]->∃ g,a=some ⟨g,0,none⟩/\B<=g/\g<w.heap.size):=by
 rcases h.2 with ⟨rfl,hn⟩ | ⟨g,cap,cur,rfl,hb,hg,h1,h2,h3,h4⟩
 ·exact ⟨none,0,by rw [hn],by omega,by omega,fun hne=>absurd (List.length_eq_zero_iff.1 hn) hne⟩
 ·exact ⟨_,cap,rfl,h1,h2,fun _=>⟨g,rfl,hb,(Array.getElem?_eq_some_iff.1 hg).1⟩⟩
theorem aV.base {B B':Nat} {w:World} {v:Value} {l:List Nat} (h:aV B w v l) (hb:B'<=B):aV B' w v l:=by
 refine ⟨h.1,?_⟩;rcases h.2 with h' | ⟨g,cap,cur,e,hg,rest⟩
 ·exact .inl h'
 ·exact .inr ⟨g,cap,cur,e,ow hb hg,rest⟩
theorem aV.nil (B:Nat) (w:World):aV B w (.slice none 0 0) []:=World.ownsRow_nil w B 197 1
theorem aV.get {B g n cap:Nat} {w:World} {l:List Nat} (h:aV B w (.slice (some ⟨g,0,none⟩) n cap) l) {k x:Nat} (hx:l[k]?=some x) :
  w.cell? ⟨g,k,none⟩=some (.int .u64 x)/\w.frozen? ⟨g,k,none⟩=false:=by
 have hk:k<l.length:=(od.1 hx).1;have hn:n=l.length:=by
  rcases h.2 with ⟨e,_⟩ | ⟨g',cap',cur,e,_⟩
  ·cases e
  ·simp only [Value.slice.injEq] at e;exact e.2.1
 subst hn;exact ⟨(World.ownsRow.cellAt h k (by simpa using hk)).trans (by simp [hx,pcV]),World.ownsRow.frozenAt h k⟩
theorem aV.set {B g n cap:Nat} {w:World} {l:List Nat} (h:aV B w (.slice (some ⟨g,0,none⟩) n cap) l) (k x:Nat) :
  aV B (w.setCell ⟨g,k,none⟩ (.int .u64 x)) (.slice (some ⟨g,0,none⟩) n cap) (l.set k x):=by
 have hn:n=l.length:=by
  rcases h.2 with ⟨e,_⟩ | ⟨g',cap',cur,e,_⟩
  ·cases e
  ·simp only [Value.slice.injEq] at e;exact e.2.1
 subst hn;unfold aV at h |-;rw [List.map_set,List.length_set];exact (World.ownsRow.stored h k _).1
theorem aV.take {B g n cap:Nat} {w:World} {l:List Nat} (h:aV B w (.slice (some ⟨g,0,none⟩) n cap) l) (m:Nat) (hm:m<=l.length) :
  aV B w (.slice (some ⟨g,0,none⟩) m cap) (l.take m):=by
 have hl:(l.take m).length=m:=by rw [om];omega
 refine ⟨by rw [List.length_map,Nat.mul_one],.inr ?_⟩;rcases h.2 with ⟨e,_⟩ | ⟨g',cap',cur,e,hb,hg,h1,h2,h3,h4⟩
 ·cases e
 ·simp only [Value.slice.injEq,Option.some.injEq,Addr.mk.injEq] at e;obtain ⟨⟨rfl,-,-⟩,rfl,rfl⟩:=e;refine ⟨g,cap,cur,by rw [hl],hb,hg,by omega,h2,h3,?_⟩;rw [Nat.mul_one] at h4 |-;rw [List.map_take,<- h4,List.take_take,hl,Nat.min_eq_left (by omega)]
theorem aV.len {B g n cap:Nat} {w:World} {l:List Nat} (h:aV B w (.slice (some ⟨g,0,none⟩) n cap) l):n=l.length:=by
 rcases h.2 with ⟨e,_⟩ | ⟨g',cap',cur,e,_⟩
 ·cases e
 ·simp only [Value.slice.injEq] at e;exact e.2.1
theorem dG.open {w:World} {v:Value} {l:List Nat} (h:dG w v l) :
  ∃ (a:Option Addr) (cap:Nat),v=.slice a l.length cap/\l.length<=cap/\cap<=9223372036854775807 /\
   (l≠[]->∃ b off,a=some ⟨b,off,none⟩/\b<w.heap.size/\∀ (j:Nat) x,l[j]?=some x->w.cell? ⟨b,off+j,none⟩=some (.int .u64 x)):=by
 obtain ⟨a,cap,hv,h1,h2,h3,h4⟩:=aN.open h;refine ⟨a,cap,hv,h1,h2,fun hx=>?_⟩;obtain ⟨b,off,ha,hb,hc⟩:=h4 (by omega) hx;refine ⟨b,off,ha,hb,fun j x hj=>?_⟩;obtain ⟨u,_,hr,pP⟩:=hc j x hj;have:=pP 0 (by omega);rw [hr] at this;simpa [pcV] using this
theorem aV.made {B n:Nat} {w:World} {v:Value} (h:w.ownsRow B 197 1 v n (madeCells #[.int .u64 0] n).toList):aV B w v (List.replicate n 0):=by
 unfold aV;rw [List.length_replicate];have e:(madeCells #[Value.int .u64 0] n).toList=(List.replicate n 0).map pcV:=(toList_madeCells_one _ _).trans (by simp [pcV])
 rwa [e] at h
theorem aV.build {B:Nat} {w:World} {v:Value} {l:List Nat} (h:aV B w v l):ai w B 197 1 v pcR l:=by
 refine ⟨l.map fun x=>[pcV x],by simp,by simp,?_,?_⟩;·rw [eR];exact h
 ·intro j u x hu hx w' _;simp only [oh,hx,Option.map_some,Option.some.injEq] at hu;exact hu.symm
theorem ai.ownP {B:Nat} {w:World} {v:Value} {l:List Nat} (h:ai w B 197 1 v pcR l):aV B w v l:=by
 obtain ⟨us,h1,h2,h3,h4⟩:=h;have:us=l.map fun x=>[pcV x]:=by
  apply List.ext_getElem?;intro i;rw [oh];by_cases hi:i<l.length
  ·have rD:i<us.length:=(by omega);have:=(h4 i us[i] l[i] (by simp [rD]) (by simp [hi])).now;simp only [pcR] at this;simp [hi,rD,this]
  ·rw [o4 (by omega),o4 (by omega)];rfl
 rw [this,eR] at h3;exact h3
theorem ks (B:Nat) (l:List Nat) (v:Value) (w:World) (h:aV B w v l) (hp:aP l) :
  Calls prog 158 #[v] w fun e w'=>∃ v' l',e=.returned v'/\Hid (aV B w' v' l'/\bJ l'/\lv l'=lv l/\l'.length<=l.length)/\∃ k,w'=w.drewN k:=by
 obtain ⟨a,cap,rfl,hl,hc,hg⟩:=h.form;have HW:=oZ h;have HP:=oZ hp;have HG:=oZ hg;clear h hp hg
 go_enter func158,ntmps158
 go_wp2_with fail
 go_loopw [0] (fun t wr=>∃ m:Nat,m<=l.length/\t=.slice a m cap/\Hid (lv (l.take m)=lv l)/\∃ k,wr=w.drewN k) (fun t _=>match t with | .slice _ m _=>m | _=>0)
 case atStart=>exact ⟨l.length,oz _,rfl,by unfold Hid;rw [List.take_length],0,rfl⟩
 case round =>
  obtain ⟨m,hm,rfl,HV,k,rfl⟩:=hrel;by_cases h0:m=0
  ·subst h0;have HF:Hid (aV B w (.slice a 0 cap) []/\bJ []/\lv []=lv l/\([]:List Nat).length<=l.length):=by
    refine ⟨?_,bJ.nil,HV,Nat.zero_le _⟩;by_cases hn:l=[];·subst hn;exact HW
    ·obtain ⟨g,rfl,-,-⟩:=HG hn;exact HW.take 0 (Nat.zero_le _)
   go_wp2_with fail;go_ret;exact ⟨_,[],rfl,HF,k,rfl⟩
  ·have hne:l≠[]:=(by rintro rfl;simp at hm;omega);obtain ⟨g,rfl,hg1,wY⟩:=HG hne;obtain ⟨x,hx⟩:∃ x,l[m-1]?=some x:=⟨_,oc (by omega)⟩;obtain ⟨pP,-⟩:=HW.get hx;have D0:(0:Int)<=(m:Int)-1:=(by omega);have AO:((m:Int)-1).toNat=m-1:=(by omega);have rD:1<=m:=(by omega);by_cases qB:x=0
   ·subst qB;have EC:Hid (lv (l.take (m-1))=lv l):=by
     unfold Hid;have:=ju hx;rw [show m-1+1=m by omega,Nat.mul_zero,Nat.add_zero,HV.out] at this;exact this.symm
    clear hx h0 hne;go_wp2_with fail;go_roundw
    case rel=>exact ⟨m-1,by omega,by first | rfl | (simp;omega),EC,k,rfl⟩
    case measure=>simp;omega
   ·have HF:Hid (aV B w (.slice (some ⟨g,0,none⟩) m cap) (l.take m)/\bJ (l.take m)/\lv (l.take m)=lv l/\(l.take m).length<=l.length):=by
     refine ⟨HW.take m hm,⟨HP.take m,?_⟩,HV,by rw [om];omega⟩;intro y hy;rw [om,Nat.min_eq_left hm,List.getElem?_take,if_pos (by omega),hx] at hy;cases hy;exact qB
    have hxb:((x:Int) == 0)=false:=(by rw [beq_eq_false_iff_ne];omega);clear hx h0 hne;go_wp2_with fail;go_ret;exact ⟨_,_,rfl,HF,k,rfl⟩
theorem mL (s:ByteArray) (j:Nat) (h:j<s.size):s.data.toList[j]?=some s[j]:=by
 have:j<s.data.toList.length:=by rw [<- Lib.size_eq];exact h
 rw [oc this];rfl
theorem c4_ (s:ByteArray) (w:World):∃ (cap:Nat) (W1:World),
  (convert 92 107 (.string s)).run prog w=.ok (.slice (some ⟨w.heap.size,0,none⟩) s.size cap) W1/\aA w W1 /\
   ∀ (j:Nat) c,s.data.toList[j]?=some c->W1.cell? ⟨w.heap.size,j,none⟩=some (.int .u8 c.toNat):=by
 refine ⟨_,_,Lib.run_convert_string_bytes (P:=prog) w 92 107 5 s (u:=.string) underlying92 underlying107 underlying5,⟨rfl,rfl,rfl,by rw [Lib.bytesWorld_size];omega,fun j hj=>Lib.bytesWorld_at_old w _ s j hj⟩,fun j c hc=>?_⟩;have hj:j<s.size:=by rw [Lib.size_eq];exact (od.1 hc).1
 rw [Lib.bytesWorld_cell w _ s j hj];simp [List.getD,hc]
theorem ic {w w':World} (h:w.grownBy w' none):aA w w':=⟨h.os,h.tape,h.output,h.size,fun k hk=>h.block k hk (by simp)⟩
theorem Z60 (s:ByteArray) (w:World) (hd:s.data.toList.all cI=true) (hs:s.size<=40000000000) :
  Calls prog 156 #[.string s] w fun e w'=>∃ v l,e=.returned v/\Hid (aV w.heap.size w' v l/\bJ l/\lv l=bB 0 s.data.toList/\l.length<=s.size)/\aA w w':=by
 obtain ⟨i0,hi,pk,hz1,hz2⟩:=info_parts jq;have HI:=oZ hi;have HZ0:=oZ pk;have HZ1:=oZ hz1;have HZ2:=oZ hz2;have HD:=oZ hd;clear hi pk hz1 hz2 hd;obtain ⟨c,hc⟩:∃ c:Nat,c=s.size / 9+1:=⟨_,rfl⟩;have zc:c<=10000000000:=by omega
 have rh:((s.size:Int) / 9+1)=(c:Int):=by omega
 have hl:s.data.toList.length=s.size:=(Lib.size_eq s).symm;have HL:=oZ hl;clear hl hc
 go_enter func156,ntmps156
 go_wp2_with (at_make;refine wpList_make_own _ rfl _ _ 202 rfl w.heap.size 197 i0 (.int .u64 0) 1 underlying202 HI HZ0 HZ1 _ _ _ c rfl rfl rfl ?c1 ?c2 ?c3 ?_)
 case c1=>rw [HZ2.out];omega
 case c2=>unfold maxLen;omega
 case c3=>exact oz _
 intro w1 hown pQ;have HO:Hid (aV w.heap.size w1 (.slice (some ⟨w.heap.size,0,none⟩) 0 c) []):=hown;have hE1:=ic pQ;clear hown pQ;go_wp2_with fail;have HB0:Hid (ai w1 w.heap.size 197 1 (.slice (some ⟨w.heap.size,0,none⟩) 0 c) pcR []):=aV.build HO;have HS0:Hid (aP []/\([]:List Nat).length=0/\lv []=bB 0 (s.data.toList.drop (s.size-9*0))):=by
  refine ⟨aP.nil,rfl,?_⟩;rw [Nat.mul_zero,Nat.sub_zero,List.drop_eq_nil_of_le (by rw [HL.out];exact oz _)];rfl
 clear HO zc rh
 go_loopw [3,4] (fun out i wr=>∃ (k:Nat) (e:Int) (l:List Nat),i=.int .i64 e/\e<=(s.size:Int)/\-9<e/\Hid (e=s.size-9*k)/\aA w wr/\Hid (ai wr w.heap.size 197 1 out pcR l)/\Hid (aP l/\l.length=k/\lv l=bB 0 (s.data.toList.drop (s.size-9*k)))) (fun _ i _=>(intOf i).toNat)
 case atStart=>exact ⟨0,_,[],rfl,by omega,by omega,by unfold Hid;omega,hE1,HB0,HS0⟩
 case round =>
  obtain ⟨k,e,l,rfl,Fp,D3,HE,vf,HB,HS⟩:=hrel;obtain ⟨wo,rfl⟩:∃ wo:World,wo=wr:=⟨_,rfl⟩;clear HB0 HS0;by_cases h0:0<e
  ·obtain ⟨m,rfl⟩:∃ m:Nat,e=m:=⟨e.toNat,by omega⟩;have HM:Hid (m=s.size-9*k):=(by have:=HE.out;unfold Hid;omega);have HMK:Hid (s.size-m=9*k):=(by have:=HE.out;unfold Hid;omega);have yZ:Hid (∀ f:Nat,f<=m->m<=f+9->(0<f->f+9=m)->m<=s.size->(s.extract f m).data.toList=(s.data.toList.take m).drop f/\(s.extract f m).size=m-f):=by
    intro f h1 h2 h3 h4;have e:(s.extract f m).data.toList=(s.data.toList.take m).drop f:=(by rw [Lib.extract_data,List.drop_take]);refine ⟨e,?_⟩;rw [Lib.size_eq,e,List.length_drop,om,HL.out];omega
   obtain ⟨f,hf⟩:∃ f:Nat,(m<=9/\f=0)\/(9<m/\(m:Int)-9=(f:Int)):=by
    by_cases h9:m<=9;·exact ⟨0,.inl ⟨h9,rfl⟩⟩
    ·exact ⟨m-9,.inr ⟨by omega,by omega⟩⟩
   have yT:m<=s.size:=(by omega);have hfm:f<=m:=(by omega);have Fl:m<=f+9:=(by omega);have HX:=oZ (yZ f hfm Fl (by omega) yT);obtain ⟨cap,W1,hcv,hE1,pP⟩:=c4_ (s.extract f m) wo;obtain ⟨b,hb⟩:=pL (s.extract f m);rw [<- hb] at pP HX;have D4:b.size=m-f:=HX.2;rw [<- hb,D4] at hcv;rw [hb] at hcv;have HC:=oZ pP;have HE1:=oZ (vf.trans hE1);have HB1:=oZ (ai.ext HB hE1);obtain ⟨mf,ym⟩:=pL (m-f);rw [<- ym] at hcv D4;have K5:mf<=9:=(by omega);have HBS:=oZ D4;have HMF:=oZ ym;clear pP hE1 hb D4 yZ ym;rcases hf with ⟨h9,rfl⟩ | ⟨h9,hf⟩
   all_goals
    go_wp2_with fail;clear hcv
    go_loopw [27,5] (fun j n wr=>∃ (i v:Nat),i<=mf/\j=.int .i64 i/\n=.int .u64 v/\v<=1000000000/\Hid (v=bB 0 (b.data.toList.take i))/\Hid (aA W1 wr)) (fun j _ _=>mf-(intOf j).toNat)
    case atStart=>exact ⟨0,0,by omega,rfl,rfl,by omega,rfl,aA.refl _⟩
    case round =>
     obtain ⟨i,v,hi,rfl,rfl,hv,HV,EH⟩:=hrel;obtain ⟨wi,rfl⟩:∃ wi:World,wi=wr:=⟨_,rfl⟩;have qE:Hid (b.data.toList.all cI=true):=(by unfold Hid;rw [HX.out.1];exact Z1O HD _ _);by_cases hlt:i<mf
     ·obtain ⟨ch,wI⟩:∃ ch,b.data.toList[i]?=some ch:=⟨_,mL b i (by rw [HBS.out];exact hlt)⟩;have g1:=EH.cell (HC i ch wI);have Ft:48<=ch.toNat/\ch.toNat<=57:=of_decide_eq_true (List.all_eq_true.1 qE ch (og wI));obtain ⟨z,hz⟩:∃ z:Nat,ch.toNat=z+48:=⟨ch.toNat-48,by omega⟩;have NB:z<=9:=(by omega);have EC:Hid (10*v+z=bB 0 (b.data.toList.take (i+1))):=by
       unfold Hid;rw [ou,wI,nf,<- HV.out];show _=bB v [ch];rw [gM,jj,hz];omega
      have hv2:10*v+z<=1000000000:=by
       have:=Z0d (Z1O (e:=i+1) (f:=0) qE) (by rw [List.drop_zero,om];omega);rw [List.drop_zero,<- EC.out] at this;omega
      rw [hz] at g1;clear wI Ft hz;go_wp2_with fail;go_roundw
      case rel=>exact ⟨i+1,10*v+z,by omega,by go_num,by go_num,hv2,EC,EH⟩
      case measure=>simp [intOf];omega
     ·obtain rfl:mf=i:=(by omega);have HBi:=oZ (ai.ext HB1 EH);have HEi2:=oZ (aA.trans HE1 EH);have CB:w.heap.size<=wi.heap.size:=HEi2.size;have HLL:Hid (l.length<100000000000):=(by have:=HS.2.1;unfold Hid;have:=HE.out;omega);have Hg:Hid (aP (l++[v])/\(l++[v]).length=k+1/\lv (l++[v])=bB 0 (s.data.toList.drop (s.size-9*(k+1)))):=by
       have sO:b.data.toList.length=mf:=(by rw [<- Lib.size_eq,HBS.out]);have IK:v=bB 0 b.data.toList:=(by rw [HV.out,List.take_of_length_le (by omega)]);have BN:v<1000000000:=(by rw [IK];exact Z0d qE (by omega));refine ⟨HS.1.append (aP.cons BN aP.nil),by rw [pG,HS.out.2.1];rfl,?_⟩;rw [jM,HS.out.2.2,HS.out.2.1,fj,eJ,Nat.mul_zero,Nat.add_zero,IK,HX.out.1,<- HM.out];have:=Z25 (l:=s.data.toList) (e:=m) (k:=k) (by rw [HL.out];exact yT) (by rw [HL.out];exact HMK) _ hfm rfl;rw [this];congr 2;have:=HE.out;omega
      clear hlt;go_wp2_with (at_builtin;go_must (refine Z0_ _ rfl _ _ 202 rfl w.heap.size 197 (.int .u64 0) 1 8 underlying202 jq rfl (by decide) u3 pcR l v #[.int .u64 v] 197 rfl HBi rfl rfl ?_ (fun _ _=>rfl) HLL (by decide) CB ?_))
      all_goals first | (simp [Value.oneCell'];done) | skip
      intro v' w5 pf qz hb5 hs5 _;have HB5:=oZ pf;have HX5:=oZ (Below.trans HEi2 hb5);clear pf qz hb5;go_wp2_with fail;go_roundw
      case rel=>exact ⟨k+1,_,l++[v],rfl,by omega,by omega,by have:=HE.out;unfold Hid;omega,HX5,HB5,Hg⟩
      case measure=>simp [intOf];omega
  ·have HF:Hid (lv l=bB 0 s.data.toList):=by
    have:=HE.out;unfold Hid;rw [HS.out.2.2,show s.size-9*k=0 by omega,List.drop_zero]
   have HW:Hid (aV w.heap.size wo u3 l):=HB.ownP;have HT:=oZ (ks w.heap.size l u3 wo HW HS.1);go_wp2_with fail;refine HT.mono ?_;rintro e' w' ⟨v',l',rfl,hr,kk,rfl⟩;have HR:=oZ hr;clear hr HT;go_wp2_with fail;go_ret;refine ⟨v',l',rfl,⟨HR.out.out.1,HR.out.out.2.1,HR.out.out.2.2.1.trans HF,?_⟩,aA.draws vf _⟩;have:=HR.out.out.2.2.2;have:=HS.2.1;have:=HE.out;omega
def nV (c:UInt8):Value:=.int .u8 c.toNat
def ed (B:Nat) (w:World) (v:Value) (l:List UInt8):Prop:=w.ownsRow B 5 1 v l.length (l.map nV)
theorem ed.len {B g n cap:Nat} {w:World} {l:List UInt8} (h:ed B w (.slice (some ⟨g,0,none⟩) n cap) l):n=l.length:=by
 rcases h.2 with ⟨e,_⟩ | ⟨g',cap',cur,e,_⟩
 ·cases e
 ·simp only [Value.slice.injEq] at e;exact e.2.1
theorem ed.get {B g n cap:Nat} {w:World} {l:List UInt8} (h:ed B w (.slice (some ⟨g,0,none⟩) n cap) l) {k:Nat} {x:UInt8} (hx:l[k]?=some x) :
  w.cell? ⟨g,k,none⟩=some (.int .u8 x.toNat)/\w.frozen? ⟨g,k,none⟩=false:=by
 have hk:k<l.length:=(od.1 hx).1;have hn:=h.len;subst hn;exact ⟨(World.ownsRow.cellAt h k (by simpa using hk)).trans (by simp [hx,nV]),World.ownsRow.frozenAt h k⟩
theorem ed.set {B g n cap:Nat} {w:World} {l:List UInt8} (h:ed B w (.slice (some ⟨g,0,none⟩) n cap) l) (k:Nat) (x:UInt8) :
  ed B (w.setCell ⟨g,k,none⟩ (.int .u8 x.toNat)) (.slice (some ⟨g,0,none⟩) n cap) (l.set k x):=by
 have hn:=h.len;subst hn;unfold ed at h |-;rw [List.map_set,List.length_set];exact (World.ownsRow.stored h k _).1
theorem ed.form {B:Nat} {w:World} {v:Value} {l:List UInt8} (h:ed B w v l):∃ a cap,v=.slice a l.length cap/\l.length<=cap/\cap<=9223372036854775807/\(l≠[]->∃ g,a=some ⟨g,0,none⟩/\B<=g/\g<w.heap.size):=by
 rcases h.2 with ⟨rfl,hn⟩ | ⟨g,cap,cur,rfl,hb,hg,h1,h2,h3,h4⟩
 ·exact ⟨none,0,by rw [hn],by omega,by omega,fun hne=>absurd (List.length_eq_zero_iff.1 hn) hne⟩
 ·exact ⟨_,cap,rfl,h1,h2,fun _=>⟨g,rfl,hb,(Array.getElem?_eq_some_iff.1 hg).1⟩⟩
theorem ed.draws {B:Nat} {w:World} {v:Value} {l:List UInt8} (h:ed B w v l) (k:Nat):ed B (w.drewN k) v l:=et h (aA.drewN w k)
def kO (_:World) (u:List Value) (x:UInt8):Prop:=u=[nV x]
theorem ai.ownB {B:Nat} {w:World} {v:Value} {l:List UInt8} (h:ai w B 5 1 v kO l):ed B w v l:=by
 obtain ⟨us,h1,h2,h3,h4⟩:=h;have:us=l.map fun x=>[nV x]:=by
  apply List.ext_getElem?;intro i;rw [oh];by_cases hi:i<l.length
  ·have rD:i<us.length:=(by omega);have:=(h4 i us[i] l[i] (by simp [rD]) (by simp [hi])).now;simp only [kO] at this;simp [hi,rD,this]
  ·rw [o4 (by omega),o4 (by omega)];rfl
 rw [this,eR] at h3;exact h3
def je (bs l:List UInt8) (i:Nat):Prop:=l.length=bs.length/\∀ k,k<bs.length->l[k]?=if k<i\/bs.length<=k+i then bs[bs.length-1-k]? else bs[k]?
theorem je.zero (bs:List UInt8):je bs bs 0:=⟨rfl,fun k hk=>by rw [if_neg (by omega)]⟩
theorem je.done {bs l:List UInt8} {i:Nat} (h:je bs l i) (hi:bs.length<=2*i+1):l=bs.reverse:=by
 apply List.ext_getElem?;intro k;by_cases hk:k<bs.length
 ·rw [h.2 k hk,List.getElem?_reverse hk]
  split
  ·rfl
  ·have:bs.length-1-k=k:=(by omega);rw [this]
 ·rw [o4 (by have:=h.1;omega),o4 (by rw [List.length_reverse];omega)]
theorem je.step {bs l:List UInt8} {i j:Nat} {x y:UInt8} (h:je bs l i) (hj:i+j+1=bs.length) (qH:i<j) (hx:l[i]?=some x) (hy:l[j]?=some y):je bs ((l.set i y).set j x) (i+1):=by
 have hl:=h.1;refine ⟨by simp [hl],fun k hk=>?_⟩;have h1:=h.2 i (by omega);have h2:=h.2 j (by omega);rw [if_neg (by omega)] at h1 h2;rw [pH,pH];by_cases e1:j=k
 ·subst e1;rw [if_pos rfl,if_pos (by simp [hl];omega),if_pos (by omega),show bs.length-1-j=i by omega,<- h1,hx]
 ·rw [if_neg e1];by_cases e2:i=k
  ·subst e2;rw [if_pos rfl,if_pos (by omega),if_pos (by omega),show bs.length-1-i=j by omega,<- h2,hy]
  ·rw [if_neg e2,h.2 k hk];by_cases c:k<i\/bs.length<=k+i;·rw [if_pos c,if_pos (by omega)]
   ·rw [if_neg c,if_neg (by omega)]
theorem e4_ (B:Nat) (bs:List UInt8) (v:Value) (w:World) (h:ed B w v bs) :
  Calls prog 238 #[v] w fun e w'=>e=.returned (.tuple #[])/\ed B w' v bs.reverse/\w.grownBy w' v.ownBlock:=by
 obtain ⟨a,cap,rfl,hl,hc,hg⟩:=h.form;have HW:=oZ h;have HG:=oZ hg;clear h hg
 go_enter func238,ntmps238
 go_wp2_with fail
 go_loopw [2,3] (fun i j wr=>∃ (x:Nat) (y:Int) (l:List UInt8),i=.int .i64 x/\j=.int .i64 y/\(x:Int)<=bs.length/\y<bs.length/\-2<y/\Hid ((x:Int)+y+1=bs.length)/\Hid (ed B wr (.slice a bs.length cap) l)/\Hid (je bs l x)/\Hid (w.grownBy wr (Value.slice a bs.length cap).ownBlock)) (fun i j _=>(intOf j-intOf i).toNat)
 case atStart=>exact ⟨0,_,bs,rfl,rfl,by omega,by omega,by omega,by unfold Hid;omega,HW,je.zero bs,World.grownBy.refl _ _⟩
 case round =>
  obtain ⟨x,y,l,rfl,rfl,hx,hy,ry,zB,HO,HS,HGR⟩:=hrel;obtain ⟨wo,rfl⟩:∃ wo:World,wo=wr:=⟨_,rfl⟩;by_cases hlt:(x:Int)<y
  ·obtain ⟨j,rfl⟩:∃ j:Nat,y=j:=⟨y.toNat,by omega⟩;have hxy:=zB.out;obtain ⟨g,rfl,hg1,wY⟩:=HG (by rintro rfl;simp at hy;omega);have hll:=HS.1;obtain ⟨cx,ph⟩:∃ c,l[x]?=some c:=⟨_,oc (by omega)⟩;obtain ⟨cy,sE⟩:∃ c,l[j]?=some c:=⟨_,oc (by omega)⟩;obtain ⟨c1,f1⟩:=HO.get ph;obtain ⟨c2,f2⟩:=HO.get sE;have HS2:=oZ (HS.step (by omega) (by omega) ph sE);have HO2:=oZ ((HO.set x cy).set j cx);have HN:=oZ (fun k=>ed.draws (HO2) k);have IF:x<bs.length:=(by omega);have yt:j<bs.length:=(by omega);have hne:¬ x=j:=(by omega);have xO:¬ j=x:=(by omega);clear hxy hll ph sE HG;go_wp2_with fail
   go_region
   all_goals
    go_wp2_with fail;go_roundw
    case rel =>
     refine ⟨x+1,_,_,by go_num,rfl,by omega,by omega,by omega,by have:=zB.out;unfold Hid;omega,et HO2 (aA.drew _),HS2,?_⟩;exact gO (gO (gO HGR (fT _ g _ _)) (fT _ g _ _)) ((aA.drew _).grown _)
    case measure=>simp [intOf];omega
  ·have HF:=oZ (HS.done (by have:=zB.out;omega));rw [HF.out] at HO;go_wp2_with fail;refine bodyPost_end (results_none rfl _ _ _) rfl ⟨rfl,HO,HGR⟩
structure jF (l:List Nat) (i:Nat) (bs:List UInt8):Prop where
 dig:bs.all cI=true
 len:i<l.length->bs.length=9*i
 le:bs.length<=9*i
 val:dv bs=lv (l.take i)
 last:i=l.length->∃ c,bs.getLast?=some c/\c≠48
structure kD (l:List Nat) (i k n:Nat) (bs:List UInt8):Prop where
 dig:bs.all cI=true
 len:bs.length=9*i+k
 val:dv bs+10^bs.length*n=lv (l.take (i+1))
 lt:n<10^(9-k)
 last:i+1=l.length->n=0->∃ c,bs.getLast?=some c/\c≠48
theorem jF.zero (l:List Nat) (h:l≠[]):jF l 0 []:=⟨rfl,fun _=>rfl,by simp,rfl,fun e=>absurd (List.length_eq_zero_iff.1 e.symm) h⟩
theorem jF.enter {l:List Nat} {i x:Nat} {bs:List UInt8} (h:jF l i bs) (hc:bJ l) (hx:l[i]?=some x):kD l i 0 x bs:=by
 have hi:=(od.1 hx).1;refine ⟨h.dig,h.len hi,?_,hc.1.get hx,fun he h0=>?_⟩;·rw [h.val,h.len hi,ju hx,Z5D]
 ·exact absurd h0 (hc.2 x (by rw [<- he,Nat.add_sub_cancel];exact hx))
theorem kD.step {l:List Nat} {i k n:Nat} {bs:List UInt8} {c:UInt8} (h:kD l i k n bs) (hk:k<9) (hn:i+1<l.length\/0<n) (hc:c.toNat=48+n%10):kD l i (k+1) (n / 10) (bs++[c]):=by
 refine ⟨?_,by rw [pG,h.len];rfl,Z1D hc h.val,?_,fun he h0=>⟨c,by simp,?_⟩⟩
 ·rw [List.all_append,h.dig,Bool.true_and,List.all_cons,List.all_nil,Bool.and_true];exact pE (by omega)
 ·have:=h.lt;rw [show 9-k=(9-(k+1))+1 by omega,Nat.pow_succ] at this;omega
 ·rintro rfl;rw [show (48:UInt8).toNat=48 from rfl] at hc;omega
theorem kD.leave {l:List Nat} {i k n:Nat} {bs:List UInt8} (h:kD l i k n bs) (hk:k<=9) (hi:i<l.length) (hn:k=9\/(¬ i+1<l.length/\n=0)):jF l (i+1) bs:=by
 have h0:n=0:=by
  rcases hn with rfl | ⟨-,h⟩
  ·have:=h.lt;rw [Nat.sub_self,Nat.pow_zero] at this;omega
  ·exact h
 have hv:=h.val;rw [h0,Nat.mul_zero,Nat.add_zero] at hv;exact ⟨h.dig,fun hlt=>by have:=h.len;omega,by have:=h.len;omega,hv,fun he=>h.last he h0⟩
theorem jF.done {l:List Nat} {bs:List UInt8} (h:jF l l.length bs):bs.reverse=(aE (lv l)).data.toList:=by
 obtain ⟨c,hc,GA⟩:=h.last rfl;have hne:bs≠[]:=by rintro rfl;simp at hc
 have h1:=Z17 (l:=bs.reverse) (by rw [List.all_reverse];exact h.dig) (by simpa using hne) (.inl (by rw [List.head?_reverse,hc];simpa using GA));rw [h1,p2_,h.val,List.take_length,jw]
theorem nD (l:List Nat) (v:Value) (w:World) (h:dG w v l) (hc:bJ l) (hlen:l.length<=10000000000) :
  pI 159 #[v] w (.string (aE (lv l))):=by
 obtain ⟨a,cap,rfl,hl,qY,pP⟩:=h.open;have HX:=oZ pP;have HC:=oZ hc;clear h pP hc;by_cases hn:l=[]
 ·subst hn;have HF:Hid (aE (lv [])=⟨#[48]⟩):=by unfold Hid aE;rw [eJ,Lib.decDigits_one (by omega)];rfl
  rw [HF.out]
  go_enter func159,ntmps159
  go_wp2_with fail;go_ret;exact ⟨rfl,aA.refl _⟩
 ·obtain ⟨b,off,rfl,hb,pP⟩:=HX hn;have HCELL:=oZ pP;have hpos:0<l.length:=List.length_pos_iff.2 hn;have Ik:((l.length:Int) == 0)=false:=by rw [beq_eq_false_iff_ne];omega
  have HN:=oZ hn;obtain ⟨c9,Lj⟩:∃ c9:Nat,(9*(l.length:Int))=(c9:Int):=⟨9*l.length,by omega⟩;have F9:c9<=90000000000:=by omega
  obtain ⟨i0,hi,pk,hz1,hz2⟩:=info_parts Z5y;have HI:=oZ hi;have HZ0:=oZ pk;have HZ1:=oZ hz1;have HZ2:=oZ hz2;clear hi pk hz1 hz2 HX pP hn
  go_enter func159,ntmps159
  go_wp2_with (at_make;refine wpList_make_own _ rfl _ _ 107 rfl w.heap.size 5 i0 (.int .u8 0) 1 underlying107 HI HZ0 HZ1 _ _ _ c9 rfl rfl rfl ?c1 ?c2 ?c3 ?_)
  case c1=>rw [HZ2.out];omega
  case c2=>unfold maxLen;omega
  case c3=>exact oz _
  intro w1 hown pQ;have HB0:Hid (ai w1 w.heap.size 5 1 (.slice (some ⟨w.heap.size,0,none⟩) 0 c9) kO []):=⟨[],rfl,by simp,by simpa using hown,by simp⟩;have hE1:=ic pQ;have HS0:=oZ (jF.zero l HN);clear hown pQ Lj F9;go_wp2_with fail
  go_loopw [3,16] (fun out t wr=>∃ (i:Nat) (bs:List UInt8),i<=l.length/\t=.int .i64 i/\aA w wr/\Hid (ai wr w.heap.size 5 1 out kO bs)/\Hid (jF l i bs)) (fun _ t _=>l.length-(intOf t).toNat)
  case atStart=>exact ⟨0,[],by omega,rfl,hE1,HB0,HS0⟩
  case round =>
   obtain ⟨i,bs,hi,rfl,vf,HB,HS⟩:=hrel;obtain ⟨wo,rfl⟩:∃ wo:World,wo=wr:=⟨_,rfl⟩;clear HB0 HS0;by_cases hlt:i<l.length
   ·obtain ⟨x,hx⟩:∃ x,l[i]?=some x:=⟨_,oc hlt⟩;have g1:=vf.cell (HCELL i x hx);have hxb:=HC.1.get hx;have HK0:=oZ (HS.enter HC hx);clear hx;go_wp2_with fail
    go_loopw [3,6,5] (fun out t n wr=>∃ (k m:Nat) (bs:List UInt8),k<=9/\t=.int .i64 k/\n=.int .u64 m/\m<1000000000/\aA w wr/\Hid (ai wr w.heap.size 5 1 out kO bs)/\Hid (kD l i k m bs)) (fun _ t _ _=>9-(intOf t).toNat)
    case atStart=>exact ⟨0,x,bs,by omega,rfl,rfl,hxb,vf,HB,HK0⟩
    case round =>
     obtain ⟨k,m,bs',hk,rfl,rfl,hm,zm,HBi,zr⟩:=hrel;obtain ⟨wi,rfl⟩:∃ wi:World,wi=wr:=⟨_,rfl⟩;clear g1;by_cases yu:k<9/\(i+1<l.length\/0<m)
     ·obtain ⟨hk9,yu⟩:=yu;obtain ⟨d,hd⟩:=pK (m%10);obtain ⟨q,hq⟩:=pK (m / 10);have sV:(m:Int)%10=(d:Int):=(by omega);have Dq:(m:Int) / 10=(q:Int):=(by omega);have Nl:d<=9:=(by omega);have Ez:q<1000000000:=(by omega);obtain ⟨ch,wI⟩:∃ ch:UInt8,ch.toNat=48+d:=⟨UInt8.ofNat (48+d),by rw [UInt8.toNat_ofNat'];omega⟩;have HK2:Hid (kD l i (k+1) q (bs'++[ch])):=by
       unfold Hid;rw [<- hq];exact zr.step hk9 yu (by rw [wI,hd])
      have hsz:w.heap.size<=wi.heap.size:=zm.size;have HLL:Hid (bs'.length<100000000000):=(by have:=zr.len;unfold Hid;omega);have HRR:Hid (∀ x:World,kO x [Value.int .u8 (48+(d:Int))] ch):=fun _=>by unfold kO nV;rw [wI];rfl
      clear hd hq wI;have Fa:i+1<l.length\/(¬ i+1<l.length/\0<m):=(by omega);clear yu;rcases Fa with tq | ⟨tq,BU⟩
      all_goals
       go_wp2_with (at_builtin;go_must (refine Z0_ _ rfl _ _ 107 rfl w.heap.size 5 (.int .u8 0) 1 1 underlying107 Z5y rfl (by decide) u3 kO bs' ch #[.int .u8 (48+d)] 5 rfl HBi rfl rfl ?_ (fun x _=>HRR x) HLL (by decide) hsz ?_))
       all_goals first | (simp [Value.oneCell'];done) | skip
       intro v' w5 pf qz hb5 hs5 _;have HB5:=oZ pf;have HX5:=oZ (Below.trans zm hb5);clear pf qz hb5;go_wp2_with fail;go_roundw
       case rel=>exact ⟨k+1,q,_,by omega,by go_num,rfl,Ez,HX5,HB5,HK2⟩
       case measure=>simp [intOf];omega
     ·have K6:k=9\/(k<9/\¬ i+1<l.length/\m=0):=(by omega);have HS2:Hid (jF l (i+1) bs'):=zr.leave hk hlt (by omega);clear yu;rcases K6 with rfl | ⟨hk9,tq,rfl⟩
      all_goals
       go_wp2_with fail;go_roundw
       case rel=>exact ⟨i+1,bs',by omega,by go_num,zm,HBi,HS2⟩
       case measure=>simp [intOf];omega
   ·obtain rfl:l.length=i:=(by omega);have hsh:=HB.out;have HDONE:=oZ (HS.done);obtain ⟨c,hc,-⟩:=HS.last rfl;have sO:0<bs.length:=(by cases bs with | nil=>simp at hc | cons _ _=>simp);have HLE:Hid (bs.length<=90000000000):=(by have:=HS.le;unfold Hid;omega);have hown:=HB.ownB;obtain ⟨g,capb,rfl,hg1,wY,tw,xf⟩:=eu hown sO;have HREV:=oZ (e4_ w.heap.size bs _ wo hown);unfold maxLen at xf;have hcv:∀ w',ed w.heap.size w' (.slice (some ⟨g,0,none⟩) bs.length capb) bs.reverse->(convert 107 92 (.slice (some ⟨g,0,none⟩) bs.length capb)).run prog w'=.ok (.string (aE (lv l))) w':=by
     intro w' ho;have e:aE (lv l)=⟨bs.reverse.toArray⟩:=by
      have h1:=HDONE.out;generalize aE (lv l)=nb at *
      cases nb with | mk d=>simp only at h1;rw [h1]
     rw [e]
     have:=run_convert_bytes_back w' 107 92 5 ⟨g,0,none⟩ capb bs.reverse underlying107 underlying5 underlying92 (by
      intro j hj;have hx:=(ho.get (k:=j) (x:=bs.reverse[j]) (oc hj)).1;rw [show (⟨g,0,none⟩:Addr).add j=⟨g,j,none⟩ by unfold Addr.add;split <;> simp_all]
      exact hx)
     rw [List.length_reverse] at this;exact this
    have HCV:=oZ hcv;clear hc hsh hown hcv sO;go_wp2_with fail;refine HREV.mono ?_;rintro e w5 ⟨rfl,CY,qz⟩;have hcv:=HCV _ CY;have HX5:Hid (aA w w5):=Below.trans vf ⟨qz.os,qz.tape,qz.output,qz.size,fun k hk=>qz.block k (ov hk vf.size) (by simp only [Value.ownBlock];intro e;cases e;omega)⟩;clear CY qz HREV HCV;go_wp2_with fail;go_ret;exact ⟨rfl,HX5⟩
theorem N5_ (p q:List Nat) (u v:Value) (w:World) (hu:dG w u p) (hv:dG w v q) (hp:bJ p) (hq:bJ q) (yn:p.length<=10000000000) (vn:q.length<=10000000000) :
  pI 285 #[u,v] w (.int .i64 (cR (lv p) (lv q))):=by
 obtain ⟨a,ca,rfl,Ci,AT,vB⟩:=hu.open;obtain ⟨b,cb,rfl,hlb,zc,hcv⟩:=hv.open;have HP:=oZ hp;have HQ:=oZ hq;have HU:=oZ vB;have HV:=oZ hcv;clear hu hv vB hcv hp hq;by_cases hl:p.length=q.length
 ·have tr:((p.length:Int) != (q.length:Int))=false:=by simp [hl]
  have HL:=oZ hl;have Kw:p.length<=q.length:=by omega
  have Kv:q.length<=p.length:=by omega
  clear hl
  go_enter func285,ntmps285
  go_wp2_with fail
  go_loopw [5] (fun i wr=>∃ y:Int,i=.int .i64 y/\y<p.length/\-2<y/\Hid (∃ k:Nat,y+1=k/\k<=p.length/\p.drop k=q.drop k)/\aA w wr) (fun i _=>(intOf i+1).toNat)
  case atStart=>exact ⟨_,rfl,by omega,by omega,⟨p.length,by omega,oz _,by rw [List.drop_length,HL.out,List.drop_length]⟩,aA.refl _⟩
  case round =>
   obtain ⟨y,rfl,wB,ry,HK,hE⟩:=hrel;obtain ⟨wo,rfl⟩:∃ wo:World,wo=wr:=⟨_,rfl⟩;by_cases h0:0<=y
   ·obtain ⟨k,rfl⟩:∃ k:Nat,y=k:=⟨y.toNat,by omega⟩;have FP:k<p.length:=(by omega);have FO:k<q.length:=(by omega);obtain ⟨x,hx⟩:∃ x,p[k]?=some x:=⟨_,oc FP⟩;obtain ⟨z,hz⟩:∃ z,q[k]?=some z:=⟨_,oc FO⟩;obtain ⟨ba,oa,rfl,-,vE⟩:=HU (by rintro rfl;simp at FP);obtain ⟨bb,ob,rfl,-,xm⟩:=HV (by rintro rfl;simp at FO);have g1:=hE.cell (vE k x hx);have g2:=hE.cell (xm k z hz);have HD:Hid (p.drop (k+1)=q.drop (k+1)):=by
     obtain ⟨k',e,-,h⟩:=HK.out;have:k'=k+1:=(by omega);rw [this] at h;exact h
    have HX:=oZ hx;have HZ:=oZ hz;clear hx hz vE xm;rcases Nat.lt_trichotomy x z with zw | zw | zw
    ·have hb:decide (x<z)=true:=pE (by omega);have HR:=oZ (w2_ (Z5B HP.1 HQ.1 HX HZ HD zw));clear zw;go_wp2_with fail
     go_quiet (fail)
     go_wp2_with fail;go_ret;rw [HR.out];exact ⟨rfl,aA.draws hE _⟩
    ·subst zw;have hb:decide (x<x)=false:=pD (by omega);have HK2:Hid (∃ k':Nat,((k:Int)-1)+1=k'/\k'<=p.length/\p.drop k'=q.drop k'):=by
      refine ⟨k,by omega,by omega,?_⟩;show p.drop k=q.drop k;rw [List.drop_eq_getElem_cons FP,List.drop_eq_getElem_cons FO,HD.out];congr 1;have h1:=(od.1 HX).2;have h2:=(od.1 HZ).2;rw [h1,h2]
     go_wp2_with fail
     go_quiet (fail)
     go_wp2_with fail
     go_quiet (fail)
     go_wp2_with fail;go_roundw
     case rel=>exact ⟨_,rfl,by omega,by omega,HK2,by first | exact aA.draws (aA.draws hE _) _ | exact aA.draws hE _⟩
     case measure=>simp [intOf]
    ·have hb:decide (x<z)=false:=pD (by omega);have hb2:decide (z<x)=true:=pE (by omega);have HR:=oZ (Z1Y (Z5B HQ.1 HP.1 HZ HX HD.symm zw));clear zw;go_wp2_with fail
     go_quiet (fail)
     go_wp2_with fail
     go_quiet (fail)
     go_wp2_with fail;go_ret;rw [HR.out];exact ⟨rfl,by first | exact aA.draws (aA.draws hE _) _ | exact aA.draws hE _⟩
   ·have HR:Hid (cR (lv p) (lv q)=0):=by
     obtain ⟨k,e,-,h⟩:=HK.out;have:k=0:=(by omega);subst this;rw [List.drop_zero,List.drop_zero] at h;exact Z5V (by rw [h])
    go_wp2_with fail;go_ret;rw [HR.out];exact ⟨rfl,hE⟩
 ·have tr:((p.length:Int) != (q.length:Int))=true:=by simp;omega
  rcases Nat.lt_or_gt_of_ne hl with h | h
  ·have HR:=oZ (w2_ (bJ.lt_of_length HP.1 HQ h));have HM:Hid (min 1 (max (-1) ((p.length:Int)-(q.length:Int)))=-1):=(by unfold Hid;omega);rw [HR.out];clear HR hl
   go_enter func285,ntmps285
   go_wp2_with fail;go_ret;exact ⟨rfl,aA.refl _⟩
  ·have HR:=oZ (Z1Y (bJ.lt_of_length HQ.1 HP h));have HM:Hid (min 1 (max (-1) ((p.length:Int)-(q.length:Int)))=1):=(by unfold Hid;omega);rw [HR.out];clear HR hl
   go_enter func285,ntmps285
   go_wp2_with fail;go_ret;exact ⟨rfl,aA.refl _⟩
structure kG (p q:List Nat) (i:Nat) (L:List Nat):Prop where
 len:L.length=p.length+q.length
 pcs:aP L
 val:lv L=lv (p.take i)*lv q
 zero:∀ j,i+q.length<=j->j<L.length->L[j]?=some 0
structure kF (p q:List Nat) (i x k c:Nat) (L:List Nat):Prop where
 len:L.length=p.length+q.length
 pcs:aP L
 lt:c<1000000000
 val:lv L+c*pB (i+k)=lv (p.take i)*lv q+x*(lv (q.take k)*pB i)
 zero:∀ j,i+q.length<=j->j<L.length->L[j]?=some 0
theorem kG.start (p q:List Nat):kG p q 0 (List.replicate (p.length+q.length) 0) :=
 ⟨by simp,aP.zeros _,by rw [u1_,List.take_zero,eJ,Nat.zero_mul],fun j _ h=>by rw [List.getElem?_replicate,if_pos (by simpa using h)]⟩
theorem kG.enter {p q L:List Nat} {i:Nat} (x:Nat) (h:kG p q i L):kF p q i x 0 0 L :=
 ⟨h.len,h.pcs,by omega,by rw [h.val,List.take_zero,eJ];simp,h.zero⟩
theorem kF.step {p q L:List Nat} {i x k c a b y c':Nat} (h:kF p q i x k c L) (hk:q[k]?=some b) (ha:L[i+k]?=some a) (hx:x<1000000000) (hc:c'=c+a+x*b) (hcl:c' / 1000000000<1000000000) (hy:y=c'%1000000000) :
  kF p q i x (k+1) (c' / 1000000000) (L.set (i+k) y):=by
 have hkl:=(od.1 hk).1;refine ⟨by rw [List.length_set];exact h.len,h.pcs.set _ _ (by omega),hcl,?_,fun j hj xa=>?_⟩
 ·have:=T0_ (P:=pB (i+k)) (P':=pB (i+k+1)) (c:=c) (x:=a) (y:=y) (ab:=x*b) (acc2:=x*(lv (q.take (k+1))*pB i)) (fD _) h.val hc hy (oD y ha) (by
   rw [ju hk,lj];grind)
  exact this
 ·rw [pH,if_neg (by omega)];exact h.zero j hj (by simpa using xa)
theorem kF.leave {p q L:List Nat} {i x c:Nat} (h:kF p q i x q.length c L) (hx:p[i]?=some x):kG p q (i+1) (L.set (i+q.length) c)/\L[i+q.length]?=some 0:=by
 have hi:=(od.1 hx).1;have h0:=h.zero (i+q.length) (oz _) (by rw [h.len];omega);refine ⟨⟨by rw [List.length_set];exact h.len,h.pcs.set _ _ h.lt,?_,fun j hj xa=>?_⟩,h0⟩
 ·have h1:=oD c h0;have h2:=h.val;rw [List.take_length] at h2;rw [ju hx];have:(lv (p.take i)+pB i*x)*lv q=lv (p.take i)*lv q+x*(lv q*pB i):=by grind
  have:c*pB (i+q.length)=pB (i+q.length)*c:=Nat.mul_comm _ _;omega
 ·rw [pH,if_neg (by omega)];exact h.zero j (by omega) (by simpa using xa)
theorem m0_ {a b:Nat} (ha:a<1000000000) (hb:b<1000000000):a*b<=999999998000000001:=by
 have:a*b<=999999999*999999999:=Nat.mul_le_mul (by omega) (by omega);omega
theorem j1_ (p q:List Nat) (u v:Value) (w:World) (hu:dG w u p) (hv:dG w v q) (hp:aP p) (hq:aP q) (yn:p.length<=5000000000) (vn:q.length<=5000000000) :
  Calls prog 239 #[u,v] w fun e w'=>∃ r l,e=.returned r/\Hid (aV w.heap.size w' r l/\bJ l/\lv l=lv p*lv q/\l.length<=p.length+q.length)/\aA w w':=by
 obtain ⟨a,ca,rfl,Ci,AT,vB⟩:=hu.open;obtain ⟨b,cb,rfl,hlb,zc,hcv⟩:=hv.open;have HP:=oZ hp;have HQ:=oZ hq;have HU:=oZ vB;have HV:=oZ hcv;obtain ⟨i0,hi,pk,hz1,hz2⟩:=info_parts jq;have HI:=oZ hi;have HZ0:=oZ pk;have HZ1:=oZ hz1;have HZ2:=oZ hz2;obtain ⟨n,hn⟩:∃ n:Nat,n=p.length+q.length:=⟨_,rfl⟩;have AG:(p.length:Int)+(q.length:Int)=(n:Int):=by omega
 have NR:n<=10000000000:=by omega
 have hnp:p.length<=n:=by omega
 have HN:=oZ hn;clear hi pk hz1 hz2 hu hv vB hcv hp hq hn
 go_enter func239,ntmps239
 go_wp2_with (at_make;refine wpList_make_full _ rfl _ _ 202 rfl w.heap.size 197 i0 (.int .u64 0) 1 underlying202 HI HZ0 HZ1 _ _ _ _ n rfl rfl rfl rfl ?c1 ?c2 ?c3 ?_)
 case c1=>rw [HZ2.out];omega
 case c2=>unfold maxLen;omega
 case c3=>exact oz _
 intro w1 hown pQ;have hE1:=ic pQ;have HO0:=oZ (aV.made hown);have HS0:Hid (kG p q 0 (List.replicate n 0)):=by unfold Hid;rw [HN.out];exact kG.start p q
 clear hown pQ;go_wp2_with fail
 go_loopw [19] (fun t wr=>∃ (i:Nat) (L:List Nat),i<=p.length/\t=.int .i64 i/\aA w wr/\Hid (aV w.heap.size wr (.slice (some ⟨w.heap.size,0,none⟩) n n) L)/\Hid (kG p q i L)) (fun t _=>p.length-(intOf t).toNat)
 case atStart=>exact ⟨0,_,by omega,rfl,hE1,HO0,HS0⟩
 case round =>
  obtain ⟨i,L,hi,rfl,vf,HO,HS⟩:=hrel;obtain ⟨wo,rfl⟩:∃ wo:World,wo=wr:=⟨_,rfl⟩;clear HO0 HS0;by_cases hlt:i<p.length
  ·obtain ⟨x,hx⟩:∃ x,p[i]?=some x:=⟨_,oc hlt⟩;obtain ⟨ba,oa,rfl,-,vE⟩:=HU (by rintro rfl;simp at hlt);have g1:=vf.cell (vE i x hx);have hxb:=HP.get hx;have HX:=oZ hx;have HK0:=oZ (HS.enter x);clear hx vE;go_wp2_with fail;clear g1
   go_loopw [26,8] (fun t c wr=>∃ (k cc:Nat) (L:List Nat),k<=q.length/\t=.int .i64 k/\c=.int .u64 cc/\cc<1000000000/\aA w wr/\Hid (aV w.heap.size wr (.slice (some ⟨w.heap.size,0,none⟩) n n) L)/\Hid (kF p q i x k cc L)) (fun t _ _=>q.length-(intOf t).toNat)
   case atStart=>exact ⟨0,0,L,by omega,rfl,rfl,by omega,vf,HO,HK0⟩
   case round =>
    obtain ⟨k,cc,L',hk,rfl,rfl,rh,zm,EG,zr⟩:=hrel;obtain ⟨wi,rfl⟩:∃ wi:World,wi=wr:=⟨_,rfl⟩;have LP:i+q.length<n:=(by have:=HN.out;omega);have L4:Hid (L'.length=n):=(by unfold Hid;rw [zr.out.len,HN.out]);by_cases hkl:k<q.length
    ·obtain ⟨z,hz⟩:∃ z,q[k]?=some z:=⟨_,oc hkl⟩;obtain ⟨bb,ob,rfl,-,xm⟩:=HV (by rintro rfl;simp at hkl);have g2:=zm.cell (xm k z hz);obtain ⟨y,hy⟩:∃ y,L'[i+k]?=some y:=⟨_,oc (by have:=L4.out;omega)⟩;obtain ⟨g3,f3⟩:=EG.get hy;have hyb:=zr.pcs.get hy;have hzb:=HQ.get hz;have hm:=m0_ hxb hzb;obtain ⟨m,hmm⟩:=pK (x*z);rw [hmm] at hm;have yl:(x:Int)*(z:Int)=(m:Int):=(by rw [<- hmm];exact (Int.natCast_mul _ _).symm);obtain ⟨c',sn⟩:=pL (cc+y+m);have zb:(cc:Int)+((y:Int)+(m:Int))=(c':Int):=(by omega);obtain ⟨r,hr⟩:=pL (c'%1000000000);obtain ⟨d,hd⟩:=pL (c' / 1000000000);have r6:(c':Int)%1000000000=(r:Int):=(by omega);have sV:(c':Int) / 1000000000=(d:Int):=(by omega);have xh:d<1000000000:=(by omega);have F7:c'<1000000000000000000:=(by omega);have CL:r<1000000000:=(by omega);have HK2:Hid (kF p q i x (k+1) d (L'.set (i+k) r)):=by
      unfold Hid;rw [hd];exact zr.step hz hy hxb (by rw [sn,hmm]) (by omega) hr
     have HO2:=oZ (EG.set (i+k) r);have tN:i+k<n:=(by omega);have CB:w.heap.size<=wi.heap.size:=zm.size;clear hz hy xm hmm sn hr hd;go_wp2_with fail;go_roundw
     case rel=>exact ⟨k+1,d,_,by omega,by go_num,rfl,xh,Below.setCell zm (p:=⟨w.heap.size,i+k,none⟩) (oz _) _,HO2,HK2⟩
     case measure=>simp [intOf];omega
    ·obtain rfl:q.length=k:=(by omega);have hend:=zr.leave HX;obtain ⟨g3,f3⟩:=EG.get hend.2;have HS2:=oZ hend.1;have HO2:=oZ (EG.set (i+q.length) cc);clear hend;go_wp2_with fail;go_roundw
     case rel=>exact ⟨i+1,_,by omega,by go_num,Below.setCell zm (p:=⟨w.heap.size,i+q.length,none⟩) (oz _) _,HO2,HS2⟩
     case measure=>simp [intOf];omega
  ·obtain rfl:p.length=i:=(by omega);have HT:=oZ (ks w.heap.size L _ wo HO HS.pcs);have HV:=HS.val;rw [List.take_length] at HV;have HV:=oZ HV;have HL:=oZ HS.len;go_wp2_with fail;refine HT.mono ?_;rintro e w5 ⟨r,l,rfl,hr,kk,rfl⟩;have HR:=oZ hr;clear hr HT;go_wp2_with fail;go_ret;exact ⟨r,l,rfl,⟨HR.out.out.1,HR.out.out.2.1,HR.out.out.2.2.1.trans HV,by rw [<- HL.out];exact HR.out.out.2.2.2⟩,aA.draws vf _⟩
theorem y1_ (p:List Nat) (n:Nat) (u:Value) (w:World) (hu:dG w u p) (hp:aP p) (hn:n<1000000000) (AH:0<n) (yn:p.length<=5000000000) :
  Calls prog 340 #[u,.int .u64 n] w fun e w'=>∃ r l,e=.returned r/\Hid (aV w.heap.size w' r l/\bJ l/\lv l=lv p*n/\l.length<=p.length+1)/\aA w w':=by
 have HU:=oZ hu;have HP:=oZ hp;have HO:Hid (aV w.heap.size (w.alloc (.cells #[.int .u64 n] 197)) (.slice (some ⟨w.heap.size,0,none⟩) 1 1) [n]):=by
  have:=World.ownsRow_lit (e:=197) (size:=1) w #[Value.int .u64 n] 1 (oz _) (by unfold maxLen;omega) rfl;exact this
 have Bl:Hid (aP [n]):=aP.cons hn aP.nil;have HT:=oZ (ks w.heap.size [n] _ _ HO Bl);clear hu hp
 go_enter func340,ntmps340
 go_wp2_with fail;refine HT.mono ?_;rintro e w1 ⟨r,l,rfl,hr,kk,rfl⟩;have HR:=oZ hr;have HE1:Hid (aA w ((w.alloc (.cells #[.int .u64 n] 197)).drewN kk)):=aA.draws (aA.alloc _ _) _;have HM:=oZ (j1_ p l u r _ (dG.ext HU HE1) HR.out.out.1.at HP HR.out.out.2.1.1 yn (by have:=HR.out.out.2.2.2;simp at this;omega));clear hr HT;go_wp2_with fail;refine HM.mono ?_;rintro e w2 ⟨r2,l2,rfl,pn,hE2⟩;have HR2:=oZ pn;have HE2:=oZ (aA.trans HE1 hE2);clear pn hE2 HM;go_wp2_with fail;go_ret;refine ⟨r2,l2,rfl,⟨HR2.out.out.1.base HE1.size,HR2.out.out.2.1,?_,?_⟩,HE2⟩;·rw [HR2.out.out.2.2.1,HR.out.out.2.2.1,fj,eJ,Nat.mul_zero,Nat.add_zero]
 ·have h1:=HR2.out.out.2.2.2;have h2:=HR.out.out.2.2.2;simp at h2;omega
structure iV (p:List Nat) (n k rest:Nat) (L:List Nat):Prop where
 len:L.length=p.length
 pcs:aP L
 lt:rest<n
 val:lv (p.drop k)=n*lv (L.drop k)+rest
theorem iV.start (p:List Nat) {n:Nat} (hn:0<n):iV p n p.length 0 (List.replicate p.length 0) :=
 ⟨by simp,aP.zeros _,hn,by rw [List.drop_length,List.drop_eq_nil_of_le (by simp),eJ];simp⟩
theorem iV.step {p L:List Nat} {n k rest x:Nat} (h:iV p n (k+1) rest L) (hp:aP p) (hx:p[k]?=some x) (hn:0<n) :
  iV p n k ((rest*1000000000+x)%n) (L.set k ((rest*1000000000+x) / n)):=by
 have hk:=(od.1 hx).1;refine ⟨by rw [List.length_set];exact h.len,h.pcs.set _ _ (Z0f h.lt (hp.get hx)),Nat.mod_lt _ hn,?_⟩;have e:lv ((L.set k ((rest*1000000000+x) / n)).drop k)=(rest*1000000000+x) / n+1000000000*lv (L.drop (k+1)):=by
  rw [fk (k:=k) (x:=(rest*1000000000+x) / n) (by rw [pH,if_pos rfl,if_pos (by rw [h.len];exact hk)])];rw [List.drop_set_of_lt (by omega)]
 rw [e];exact d0_ h.val (fk hx) hn
theorem k1_ (p:List Nat) (n:Nat) (u:Value) (w:World) (hu:dG w u p) (hp:aP p) (hn:n<1000000000) (AH:0<n) (yn:p.length<=10000000000) :
  Calls prog 286 #[u,.int .u64 n] w fun e w'=>∃ r l,e=.returned (.tuple #[r,.int .u64 ((lv p%n:Nat):Int)])/\Hid (aV w.heap.size w' r l/\bJ l/\lv l=lv p / n/\l.length<=p.length)/\aA w w':=by
 obtain ⟨a,ca,rfl,Ci,AT,vB⟩:=hu.open;have HP:=oZ hp;have HU:=oZ vB;obtain ⟨i0,hi,pk,hz1,hz2⟩:=info_parts jq;have HI:=oZ hi;have HZ0:=oZ pk;have HZ1:=oZ hz1;have HZ2:=oZ hz2;have HS0:=oZ (iV.start p AH);have Ik:((n:Int) == 0)=false:=by rw [beq_eq_false_iff_ne];omega
 have K2:¬ (n:Int)=0:=by omega
 clear hi pk hz1 hz2 hu vB hp
 go_enter func286,ntmps286
 go_wp2_with (at_make;refine wpList_make_full _ rfl _ _ 202 rfl w.heap.size 197 i0 (.int .u64 0) 1 underlying202 HI HZ0 HZ1 _ _ _ _ p.length rfl rfl rfl rfl ?c1 ?c2 ?c3 ?_)
 case c1=>rw [HZ2.out];omega
 case c2=>unfold maxLen;omega
 case c3=>exact oz _
 intro w1 hown pQ;have hE1:=ic pQ;have HO0:=oZ (aV.made hown);clear hown pQ;go_wp2_with fail
 go_loopw [7,8] (fun r t wr=>∃ (rr:Nat) (y:Int) (L:List Nat),r=.int .u64 rr/\t=.int .i64 y/\rr<n/\y<p.length/\-2<y/\aA w wr/\Hid (aV w.heap.size wr (.slice (some ⟨w.heap.size,0,none⟩) p.length p.length) L)/\Hid (∃ k:Nat,y+1=k/\iV p n k rr L)) (fun _ t _=>(intOf t+1).toNat)
 case atStart=>exact ⟨0,_,_,rfl,rfl,AH,by omega,by omega,hE1,HO0,⟨p.length,by omega,HS0⟩⟩
 case round =>
  obtain ⟨rr,y,L,rfl,rfl,re,wB,ry,vf,HO,HS⟩:=hrel;obtain ⟨wo,rfl⟩:∃ wo:World,wo=wr:=⟨_,rfl⟩;clear HO0 HS0;by_cases hlt:0<=y
  ·obtain ⟨j,rfl⟩:∃ j:Nat,y=j:=⟨y.toNat,by omega⟩;have Dx:j<p.length:=(by omega);obtain ⟨x,hx⟩:∃ x,p[j]?=some x:=⟨_,oc Dx⟩;obtain ⟨ba,oa,rfl,-,vE⟩:=HU (by rintro rfl;simp at Dx);have g1:=vf.cell (vE j x hx);have hxb:=HP.get hx;have HSJ:Hid (iV p n (j+1) rr L):=by
    obtain ⟨k,e,h⟩:=HS.out;have:k=j+1:=(by omega);rw [this] at h;exact h
   obtain ⟨z,hz⟩:∃ z,L[j]?=some z:=⟨_,oc (by rw [HSJ.out.len];exact Dx)⟩;obtain ⟨g3,f3⟩:=HO.get hz;obtain ⟨t,ht⟩:=pL (rr*1000000000+x);have Ej:(rr:Int)*1000000000+(x:Int)=(t:Int):=(by omega);have htb:t<1000000000000000000:=(by omega);obtain ⟨q,hq⟩:=pL (t / n);obtain ⟨m,hm⟩:=pL (t%n);have Dq:(t:Int) / (n:Int)=(q:Int):=(by rw [hq];exact (Int.natCast_ediv _ _).symm);have yl:(t:Int)%(n:Int)=(m:Int):=(by rw [hm];exact (Int.natCast_emod _ _).symm);have Ku:(t:Int).tdiv (n:Int)=(q:Int):=(by rw [Int.tdiv_eq_ediv_of_nonneg (by omega),Dq]);have FH:(t:Int).tmod (n:Int)=(m:Int):=(by rw [Int.tmod_eq_emod_of_nonneg (by omega),yl]);have BS:m<n:=(by rw [hm];exact Nat.mod_lt _ AH);have HS2:Hid (iV p n j m (L.set j q)):=by
    unfold Hid;rw [hq,hm,ht];exact HSJ.step HP hx AH
   have Ez:q<1000000000:=(by rw [hq,ht];exact Z0f re hxb);have HO2:=oZ (HO.set j q);have Ml:Hid (∃ k:Nat,((j:Int)-1)+1=k/\iV p n k m (L.set j q)):=⟨j,by omega,HS2⟩;clear hx vE hz ht hq hm;go_wp2_with fail;go_roundw
   case rel=>exact ⟨m,_,_,rfl,rfl,BS,by omega,by omega,Below.setCell vf (p:=⟨w.heap.size,j,none⟩) (oz _) _,HO2,Ml⟩
   case measure=>simp [intOf]
  ·have HSZ:Hid (iV p n 0 rr L):=by
    obtain ⟨k,e,h⟩:=HS.out;have:k=0:=(by omega);rw [this] at h;exact h
   have hv:=HSZ.val;rw [List.drop_zero,List.drop_zero] at hv;have HQ:Hid (lv L=lv p / n/\rr=lv p%n):=by
    unfold Hid;rw [hv,Nat.mul_add_div AH,Nat.mul_add_mod,Nat.div_eq_of_lt re,Nat.mod_eq_of_lt re];omega
   have HT:=oZ (ks w.heap.size L _ wo HO HSZ.pcs);clear hv;go_wp2_with fail;refine HT.mono ?_;rintro e w5 ⟨r,l,rfl,hr,kk,rfl⟩;have HR:=oZ hr;clear hr HT;go_wp2_with fail;go_ret2;exact ⟨r,l,by rw [<- HQ.out.2];rfl,⟨HR.out.out.1,HR.out.out.2.1,HR.out.out.2.2.1.trans HQ.1,by rw [<- HSZ.out.len];exact HR.out.out.2.2.2⟩,aA.draws vf _⟩
end Go.Proofs.YtoonaddcfakamaaGreatDoor
