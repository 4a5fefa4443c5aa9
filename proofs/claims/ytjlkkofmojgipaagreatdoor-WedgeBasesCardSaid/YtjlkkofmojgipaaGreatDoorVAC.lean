import Derived.Test.YtjlkkofmojgipaaGreatDoorVAB
import Derived.Test.YtjlkkofmojgipaaGreatDoorVAA
import Derived.WalkSmall
import Derived.IntWalk
import Derived.OwnWalk
import Derived.Lib.ConvBytes
import Derived.RegionTactic
import Derived.ChangeAlike
set_option linter.unusedVariables false
set_option linter.unusedSimpArgs false
set_option maxRecDepth 1000000
set_option maxHeartbeats 4000000
namespace Go.Proofs.YtjlkkofmojgipaaGreatDoor
open Go.RowKit Go.Proofs.Tryz
theorem jU:(prog.info? 204).map (fun i=>(i.zero,i.size,i.bytes))=some (some (.int .u64 0),1,8):=by kernel_rfl
theorem Z4Z:(prog.info? 5).map (fun i=>(i.zero,i.size,i.bytes))=some (some (.int .u8 0),1,1):=by kernel_rfl
def pcV (x:Nat):Value:=.int .u64 x
def aZ (B:Nat) (w:World) (v:Value) (l:List Nat):Prop:=w.ownsRow B 204 1 v l.length (l.map pcV)
def pcR (_:World) (u:List Value) (x:Nat):Prop:=u=[pcV x]
theorem pcR.mono:iD pcR:=fun _ _ _ _ _ h=>h
abbrev cV (w:World) (v:Value) (l:List Nat):Prop:=aH 1 pcR w v l
theorem cV.ext {w w':World} {v:Value} {l:List Nat} (h:cV w v l) (he:aA w w'):cV w' v l:=aH.ext pcR.mono h he
theorem aZ.at {B:Nat} {w:World} {v:Value} {l:List Nat} (h:aZ B w v l):cV w v l:=by
 refine ⟨l.map fun x=>[pcV x],by simp,by simp,?_,?_⟩
 ·have:=dQ.of_owns h
  rwa [di]
 ·intro j u x hu hx;simp only [oF,hx,Option.map_some,Option.some.injEq] at hu;exact hu.symm
theorem aZ.ext {B:Nat} {w w':World} {v:Value} {l:List Nat} (h:aZ B w v l) (he:aA w w'):aZ B w' v l:=fN h he
theorem aZ.form {B:Nat} {w:World} {v:Value} {l:List Nat} (h:aZ B w v l):∃ a cap,v=.slice a l.length cap/\l.length<=cap/\cap<=9223372036854775807/\(l≠[]->∃ g,a=some ⟨g,0,none⟩/\B<=g/\g<w.heap.size):=by
 rcases h.2 with ⟨rfl,hn⟩ | ⟨g,cap,cur,rfl,hb,hg,h1,h2,h3,h4⟩
 ·exact ⟨none,0,by rw [hn],by omega,by omega,fun hne=>absurd (List.length_eq_zero_iff.1 hn) hne⟩
 ·exact ⟨_,cap,rfl,h1,h2,fun _=>⟨g,rfl,hb,(Array.getElem?_eq_some_iff.1 hg).1⟩⟩
theorem aZ.base {B B':Nat} {w:World} {v:Value} {l:List Nat} (h:aZ B w v l) (hb:B'<=B):aZ B' w v l:=by
 refine ⟨h.1,?_⟩;rcases h.2 with h' | ⟨g,cap,cur,e,hg,rest⟩
 ·exact .inl h'
 ·exact .inr ⟨g,cap,cur,e,oJ hb hg,rest⟩
theorem aZ.nil (B:Nat) (w:World):aZ B w (.slice none 0 0) []:=World.ownsRow_nil w B 204 1
theorem aZ.get {B g n cap:Nat} {w:World} {l:List Nat} (h:aZ B w (.slice (some ⟨g,0,none⟩) n cap) l) {k x:Nat} (hx:l[k]?=some x) :
  w.cell? ⟨g,k,none⟩=some (.int .u64 x)/\w.frozen? ⟨g,k,none⟩=false:=by
 have hk:k<l.length:=(oC.1 hx).1;have hn:n=l.length:=by
  rcases h.2 with ⟨e,_⟩ | ⟨g',cap',cur,e,_⟩
  ·cases e
  ·simp only [Value.slice.injEq] at e;exact e.2.1
 subst hn;exact ⟨(World.ownsRow.cellAt h k (by simpa using hk)).trans (by simp [hx,pcV]),World.ownsRow.frozenAt h k⟩
theorem aZ.set {B g n cap:Nat} {w:World} {l:List Nat} (h:aZ B w (.slice (some ⟨g,0,none⟩) n cap) l) (k x:Nat) :
  aZ B (w.setCell ⟨g,k,none⟩ (.int .u64 x)) (.slice (some ⟨g,0,none⟩) n cap) (l.set k x):=by
 have hn:n=l.length:=by
  rcases h.2 with ⟨e,_⟩ | ⟨g',cap',cur,e,_⟩
  ·cases e
  ·simp only [Value.slice.injEq] at e;exact e.2.1
 subst hn;unfold aZ at h |-;rw [List.map_set,List.length_set];exact (World.ownsRow.stored h k _).1
theorem aZ.take {B g n cap:Nat} {w:World} {l:List Nat} (h:aZ B w (.slice (some ⟨g,0,none⟩) n cap) l) (m:Nat) (hm:m<=l.length) :
  aZ B w (.slice (some ⟨g,0,none⟩) m cap) (l.take m):=by
 have hl:(l.take m).length=m:=by rw [oG];omega
 refine ⟨by rw [List.length_map,Nat.mul_one],.inr ?_⟩;rcases h.2 with ⟨e,_⟩ | ⟨g',cap',cur,e,hb,hg,h1,h2,h3,h4⟩
 ·cases e
 ·simp only [Value.slice.injEq,Option.some.injEq,Addr.mk.injEq] at e;obtain ⟨⟨rfl,-,-⟩,rfl,rfl⟩:=e;refine ⟨g,cap,cur,by rw [hl],hb,hg,by omega,h2,h3,?_⟩;rw [Nat.mul_one] at h4 |-;rw [List.map_take,<- h4,List.take_take,hl,Nat.min_eq_left (by omega)]
theorem aZ.len {B g n cap:Nat} {w:World} {l:List Nat} (h:aZ B w (.slice (some ⟨g,0,none⟩) n cap) l):n=l.length:=by
 rcases h.2 with ⟨e,_⟩ | ⟨g',cap',cur,e,_⟩
 ·cases e
 ·simp only [Value.slice.injEq] at e;exact e.2.1
theorem cV.open {w:World} {v:Value} {l:List Nat} (h:cV w v l) :
  ∃ (a:Option Addr) (cap:Nat),v=.slice a l.length cap/\l.length<=cap/\cap<=9223372036854775807 /\
   (l≠[]->∃ b off,a=some ⟨b,off,none⟩/\b<w.heap.size/\∀ (j:Nat) x,l[j]?=some x->w.cell? ⟨b,off+j,none⟩=some (.int .u64 x)):=by
 obtain ⟨a,cap,hv,h1,h2,h3,h4⟩:=aH.open h;refine ⟨a,cap,hv,h1,h2,fun hx=>?_⟩;obtain ⟨b,off,ha,hb,hc⟩:=h4 (by omega) hx;refine ⟨b,off,ha,hb,fun j x hj=>?_⟩;obtain ⟨u,_,hr,hcell⟩:=hc j x hj;have:=hcell 0 (by omega);rw [hr] at this;simpa [pcV] using this
theorem aZ.made {B n:Nat} {w:World} {v:Value} (h:w.ownsRow B 204 1 v n (madeCells #[.int .u64 0] n).toList):aZ B w v (List.replicate n 0):=by
 unfold aZ;rw [List.length_replicate];have e:(madeCells #[Value.int .u64 0] n).toList=(List.replicate n 0).map pcV:=(toList_madeCells_one _ _).trans (by simp [pcV])
 rwa [e] at h
theorem aZ.build {B:Nat} {w:World} {v:Value} {l:List Nat} (h:aZ B w v l):aU w B 204 1 v pcR l:=by
 refine ⟨l.map fun x=>[pcV x],by simp,by simp,?_,?_⟩;·rw [di];exact h
 ·intro j u x hu hx w' _;simp only [oF,hx,Option.map_some,Option.some.injEq] at hu;exact hu.symm
theorem aU.ownP {B:Nat} {w:World} {v:Value} {l:List Nat} (h:aU w B 204 1 v pcR l):aZ B w v l:=by
 obtain ⟨us,h1,h2,h3,h4⟩:=h;have:us=l.map fun x=>[pcV x]:=by
  apply List.ext_getElem?;intro i;rw [oF];by_cases hi:i<l.length
  ·have pg:i<us.length:=(by omega);have:=(h4 i us[i] l[i] (by simp [pg]) (by simp [hi])).now;simp only [pcR] at this;simp [hi,pg,this]
  ·rw [oL (by omega),oL (by omega)];rfl
 rw [this,di] at h3;exact h3
theorem kJ (B:Nat) (l:List Nat) (v:Value) (w:World) (h:aZ B w v l) (hp:aM l) :
  Calls prog 171 #[v] w fun e w'=>∃ v' l',e=.returned v'/\Hid (aZ B w' v' l'/\ah l'/\lv l'=lv l/\l'.length<=l.length)/\∃ k,w'=w.drewN k:=by
 obtain ⟨a,cap,rfl,hl,hc,hg⟩:=h.form;have HW:=oA h;have HP:=oA hp;have HG:=oA hg;clear h hp hg
 go_enter func171,ntmps171
 go_wp2_with fail
 go_loopw [0] (fun t wr=>∃ m:Nat,m<=l.length/\t=.slice a m cap/\Hid (lv (l.take m)=lv l)/\∃ k,wr=w.drewN k) (fun t _=>match t with | .slice _ m _=>m | _=>0)
 case atStart=>exact ⟨l.length,oK _,rfl,by unfold Hid;rw [List.take_length],0,rfl⟩
 case round =>
  obtain ⟨m,hm,rfl,HV,k,rfl⟩:=hrel;by_cases h0:m=0
  ·subst h0;have HF:Hid (aZ B w (.slice a 0 cap) []/\ah []/\lv []=lv l/\([]:List Nat).length<=l.length):=by
    refine ⟨?_,ah.nil,HV,Nat.zero_le _⟩;by_cases hn:l=[];·subst hn;exact HW
    ·obtain ⟨g,rfl,-,-⟩:=HG hn;exact HW.take 0 (Nat.zero_le _)
   go_wp2_with fail;go_ret;exact ⟨_,[],rfl,HF,k,rfl⟩
  ·have hne:l≠[]:=(by rintro rfl;simp at hm;omega);obtain ⟨g,rfl,hg1,vv⟩:=HG hne;obtain ⟨x,hx⟩:∃ x,l[m-1]?=some x:=⟨_,oB (by omega)⟩;obtain ⟨hcell,-⟩:=HW.get hx;have xV:(0:Int)<=(m:Int)-1:=(by omega);have sy:((m:Int)-1).toNat=m-1:=(by omega);have pg:1<=m:=(by omega);by_cases pG:x=0
   ·subst pG;have y8:Hid (lv (l.take (m-1))=lv l):=by
     unfold Hid;have:=iz hx;rw [show m-1+1=m by omega,Nat.mul_zero,Nat.add_zero,HV.out] at this;exact this.symm
    clear hx h0 hne;go_wp2_with fail;go_roundw
    case rel=>exact ⟨m-1,by omega,by first | rfl | (simp;omega),y8,k,rfl⟩
    case measure=>simp;omega
   ·have HF:Hid (aZ B w (.slice (some ⟨g,0,none⟩) m cap) (l.take m)/\ah (l.take m)/\lv (l.take m)=lv l/\(l.take m).length<=l.length):=by
     refine ⟨HW.take m hm,⟨HP.take m,?_⟩,HV,by rw [oG];omega⟩;intro y hy;rw [oG,Nat.min_eq_left hm,List.getElem?_take,if_pos (by omega),hx] at hy;cases hy;exact pG
    have hxb:((x:Int) == 0)=false:=(by rw [beq_eq_false_iff_ne];omega);clear hx h0 hne;go_wp2_with fail;go_ret;exact ⟨_,_,rfl,HF,k,rfl⟩
theorem kU (s:ByteArray) (j:Nat) (h:j<s.size):s.data.toList[j]?=some s[j]:=by
 have:j<s.data.toList.length:=by rw [<- Lib.size_eq];exact h
 rw [oB this];rfl
theorem e0_ (s:ByteArray) (w:World):∃ (cap:Nat) (W1:World),
  (convert 53 241 (.string s)).run prog w=.ok (.slice (some ⟨w.heap.size,0,none⟩) s.size cap) W1/\aA w W1 /\
   ∀ (j:Nat) c,s.data.toList[j]?=some c->W1.cell? ⟨w.heap.size,j,none⟩=some (.int .u8 c.toNat):=by
 refine ⟨_,_,Lib.run_convert_string_bytes (P:=prog) w 53 241 5 s (u:=.string) underlying53 underlying241 underlying5,⟨rfl,rfl,rfl,by rw [Lib.bytesWorld_size];omega,fun j hj=>Lib.bytesWorld_at_old w _ s j hj⟩,fun j c hc=>?_⟩;have hj:j<s.size:=by rw [Lib.size_eq];exact (oC.1 hc).1
 rw [Lib.bytesWorld_cell w _ s j hj];simp [List.getD,hc]
theorem iO {w w':World} (h:w.grownBy w' none):aA w w':=⟨h.os,h.tape,h.output,h.size,fun k hk=>h.block k hk (by simp)⟩
theorem Z5m (s:ByteArray) (w:World) (hd:s.data.toList.all bz=true) (hs:s.size<=40000000000) :
  Calls prog 169 #[.string s] w fun e w'=>∃ v l,e=.returned v/\Hid (aZ w.heap.size w' v l/\ah l/\lv l=aj 0 s.data.toList/\l.length<=s.size)/\aA w w':=by
 obtain ⟨i0,hi,pJ,hz1,hz2⟩:=info_parts jU;have HI:=oA hi;have HZ0:=oA pJ;have HZ1:=oA hz1;have HZ2:=oA hz2;have HD:=oA hd;clear hi pJ hz1 hz2 hd;obtain ⟨c,hc⟩:∃ c:Nat,c=s.size / 9+1:=⟨_,rfl⟩;have wR:c<=10000000000:=by omega
 have qX:((s.size:Int) / 9+1)=(c:Int):=by omega
 have hl:s.data.toList.length=s.size:=(Lib.size_eq s).symm;have HL:=oA hl;clear hl hc
 go_enter func169,ntmps169
 go_wp2_with (at_make;refine wpList_make_own _ rfl _ _ 209 rfl w.heap.size 204 i0 (.int .u64 0) 1 underlying209 HI HZ0 HZ1 _ _ _ c rfl rfl rfl ?c1 ?c2 ?c3 ?_)
 case c1=>rw [HZ2.out];omega
 case c2=>unfold maxLen;omega
 case c3=>exact oK _
 intro w1 hown oo;have HO:Hid (aZ w.heap.size w1 (.slice (some ⟨w.heap.size,0,none⟩) 0 c) []):=hown;have hE1:=iO oo;clear hown oo;go_wp2_with fail;have HB0:Hid (aU w1 w.heap.size 204 1 (.slice (some ⟨w.heap.size,0,none⟩) 0 c) pcR []):=aZ.build HO;have HS0:Hid (aM []/\([]:List Nat).length=0/\lv []=aj 0 (s.data.toList.drop (s.size-9*0))):=by
  refine ⟨aM.nil,rfl,?_⟩;rw [Nat.mul_zero,Nat.sub_zero,List.drop_eq_nil_of_le (by rw [HL.out];exact oK _)];rfl
 clear HO wR qX
 go_loopw [3,4] (fun out i wr=>∃ (k:Nat) (e:Int) (l:List Nat),i=.int .i64 e/\e<=(s.size:Int)/\-9<e/\Hid (e=s.size-9*k)/\aA w wr/\Hid (aU wr w.heap.size 204 1 out pcR l)/\Hid (aM l/\l.length=k/\lv l=aj 0 (s.data.toList.drop (s.size-9*k)))) (fun _ i _=>(intOf i).toNat)
 case atStart=>exact ⟨0,_,[],rfl,by omega,by omega,by unfold Hid;omega,hE1,HB0,HS0⟩
 case round =>
  obtain ⟨k,e,l,rfl,Fa,D8,HE,pV,HB,HS⟩:=hrel;obtain ⟨wo,rfl⟩:∃ wo:World,wo=wr:=⟨_,rfl⟩;clear HB0 HS0;by_cases h0:0<e
  ·obtain ⟨m,rfl⟩:∃ m:Nat,e=m:=⟨e.toNat,by omega⟩;have HM:Hid (m=s.size-9*k):=(by have:=HE.out;unfold Hid;omega);have DY:Hid (s.size-m=9*k):=(by have:=HE.out;unfold Hid;omega);have HFX:Hid (∀ f:Nat,f<=m->m<=f+9->(0<f->f+9=m)->m<=s.size->(s.extract f m).data.toList=(s.data.toList.take m).drop f/\(s.extract f m).size=m-f):=by
    intro f h1 h2 h3 h4;have e:(s.extract f m).data.toList=(s.data.toList.take m).drop f:=(by rw [Lib.extract_data,List.drop_take]);refine ⟨e,?_⟩;rw [Lib.size_eq,e,List.length_drop,oG,HL.out];omega
   obtain ⟨f,hf⟩:∃ f:Nat,(m<=9/\f=0)\/(9<m/\(m:Int)-9=(f:Int)):=by
    by_cases h9:m<=9;·exact ⟨0,.inl ⟨h9,rfl⟩⟩
    ·exact ⟨m-9,.inr ⟨by omega,by omega⟩⟩
   have yP:m<=s.size:=(by omega);have hfm:f<=m:=(by omega);have FX:m<=f+9:=(by omega);have HX:=oA (HFX f hfm FX (by omega) yP);obtain ⟨cap,W1,hcv,hE1,hcell⟩:=e0_ (s.extract f m) wo;obtain ⟨b,hb⟩:=oc (s.extract f m);rw [<- hb] at hcell HX;have Af:b.size=m-f:=HX.2;rw [<- hb,Af] at hcv;rw [hb] at hcv;have HC:=oA hcell;have HE1:=oA (pV.trans hE1);have HB1:=oA (aU.ext HB hE1);obtain ⟨mf,yh⟩:=oc (m-f);rw [<- yh] at hcv Af;have Kg:mf<=9:=(by omega);have HBS:=oA Af;have HMF:=oA yh;clear hcell hE1 hb Af HFX yh;rcases hf with ⟨h9,rfl⟩ | ⟨h9,hf⟩
   all_goals
    go_wp2_with fail;clear hcv
    go_loopw [27,5] (fun j n wr=>∃ (i v:Nat),i<=mf/\j=.int .i64 i/\n=.int .u64 v/\v<=1000000000/\Hid (v=aj 0 (b.data.toList.take i))/\Hid (aA W1 wr)) (fun j _ _=>mf-(intOf j).toNat)
    case atStart=>exact ⟨0,0,by omega,rfl,rfl,by omega,rfl,aA.refl _⟩
    case round =>
     obtain ⟨i,v,hi,rfl,rfl,hv,HV,zG⟩:=hrel;obtain ⟨wi,rfl⟩:∃ wi:World,wi=wr:=⟨_,rfl⟩;have pI:Hid (b.data.toList.all bz=true):=(by unfold Hid;rw [HX.out.1];exact mm HD _ _);by_cases hlt:i<mf
     ·obtain ⟨ch,wF⟩:∃ ch,b.data.toList[i]?=some ch:=⟨_,kU b i (by rw [HBS.out];exact hlt)⟩;have g1:=zG.cell (HC i ch wF);have Ab:48<=ch.toNat/\ch.toNat<=57:=of_decide_eq_true (List.all_eq_true.1 pI ch (oE wF));obtain ⟨z,hz⟩:∃ z:Nat,ch.toNat=z+48:=⟨ch.toNat-48,by omega⟩;have J3:z<=9:=(by omega);have y8:Hid (10*v+z=aj 0 (b.data.toList.take (i+1))):=by
       unfold Hid;rw [oH,wF,jR,<- HV.out];show _=aj v [ch];rw [fE,iw,hz];omega
      have tx:10*v+z<=1000000000:=by
       have:=K3_ (mm (e:=i+1) (f:=0) pI) (by rw [List.drop_zero,oG];omega);rw [List.drop_zero,<- y8.out] at this;omega
      rw [hz] at g1;clear wF Ab hz;go_wp2_with fail;go_roundw
      case rel=>exact ⟨i+1,10*v+z,by omega,by go_num,by go_num,tx,y8,zG⟩
      case measure=>simp [intOf];omega
     ·obtain rfl:mf=i:=(by omega);have HBi:=oA (aU.ext HB1 zG);have HEi2:=oA (aA.trans HE1 zG);have qI:w.heap.size<=wi.heap.size:=HEi2.size;have HLL:Hid (l.length<100000000000):=(by have:=HS.2.1;unfold Hid;have:=HE.out;omega);have x8:Hid (aM (l++[v])/\(l++[v]).length=k+1/\lv (l++[v])=aj 0 (s.data.toList.drop (s.size-9*(k+1)))):=by
       have ry:b.data.toList.length=mf:=(by rw [<- Lib.size_eq,HBS.out]);have H9:v=aj 0 b.data.toList:=(by rw [HV.out,List.take_of_length_le (by omega)]);have zM:v<1000000000:=(by rw [H9];exact K3_ pI (by omega));refine ⟨HS.1.append (aM.cons zM aM.nil),by rw [oV,HS.out.2.1];rfl,?_⟩;rw [iT,HS.out.2.2,HS.out.2.1,eW,ck,Nat.mul_zero,Nat.add_zero,H9,HX.out.1,<- HM.out];have:=s5_ (l:=s.data.toList) (e:=m) (k:=k) (by rw [HL.out];exact yP) (by rw [HL.out];exact DY) _ hfm rfl;rw [this];congr 2;have:=HE.out;omega
      clear hlt;go_wp2_with (at_builtin;go_must (refine Z0_ _ rfl _ _ 209 rfl w.heap.size 204 (.int .u64 0) 1 8 underlying209 jU rfl (by decide) u3 pcR l v #[.int .u64 v] 204 rfl HBi rfl rfl ?_ (fun _ _=>rfl) HLL (by decide) qI ?_))
      all_goals first | (simp [Value.oneCell'];done) | skip
      intro v' w5 o8 pS hb5 qu _;have HB5:=oA o8;have HX5:=oA (Below.trans HEi2 hb5);clear o8 pS hb5;go_wp2_with fail;go_roundw
      case rel=>exact ⟨k+1,_,l++[v],rfl,by omega,by omega,by have:=HE.out;unfold Hid;omega,HX5,HB5,x8⟩
      case measure=>simp [intOf];omega
  ·have HF:Hid (lv l=aj 0 s.data.toList):=by
    have:=HE.out;unfold Hid;rw [HS.out.2.2,show s.size-9*k=0 by omega,List.drop_zero]
   have HW:Hid (aZ w.heap.size wo u3 l):=HB.ownP;have HT:=oA (kJ w.heap.size l u3 wo HW HS.1);go_wp2_with fail;refine HT.mono ?_;rintro e' w' ⟨v',l',rfl,hr,kk,rfl⟩;have HR:=oA hr;clear hr HT;go_wp2_with fail;go_ret;refine ⟨v',l',rfl,⟨HR.out.out.1,HR.out.out.2.1,HR.out.out.2.2.1.trans HF,?_⟩,aA.draws pV _⟩;have:=HR.out.out.2.2.2;have:=HS.2.1;have:=HE.out;omega
def mu (c:UInt8):Value:=.int .u8 c.toNat
def eQ (B:Nat) (w:World) (v:Value) (l:List UInt8):Prop:=w.ownsRow B 5 1 v l.length (l.map mu)
theorem eQ.len {B g n cap:Nat} {w:World} {l:List UInt8} (h:eQ B w (.slice (some ⟨g,0,none⟩) n cap) l):n=l.length:=by
 rcases h.2 with ⟨e,_⟩ | ⟨g',cap',cur,e,_⟩
 ·cases e
 ·simp only [Value.slice.injEq] at e;exact e.2.1
theorem eQ.get {B g n cap:Nat} {w:World} {l:List UInt8} (h:eQ B w (.slice (some ⟨g,0,none⟩) n cap) l) {k:Nat} {x:UInt8} (hx:l[k]?=some x) :
  w.cell? ⟨g,k,none⟩=some (.int .u8 x.toNat)/\w.frozen? ⟨g,k,none⟩=false:=by
 have hk:k<l.length:=(oC.1 hx).1;have hn:=h.len;subst hn;exact ⟨(World.ownsRow.cellAt h k (by simpa using hk)).trans (by simp [hx,mu]),World.ownsRow.frozenAt h k⟩
theorem eQ.set {B g n cap:Nat} {w:World} {l:List UInt8} (h:eQ B w (.slice (some ⟨g,0,none⟩) n cap) l) (k:Nat) (x:UInt8) :
  eQ B (w.setCell ⟨g,k,none⟩ (.int .u8 x.toNat)) (.slice (some ⟨g,0,none⟩) n cap) (l.set k x):=by
 have hn:=h.len;subst hn;unfold eQ at h |-;rw [List.map_set,List.length_set];exact (World.ownsRow.stored h k _).1
theorem eQ.form {B:Nat} {w:World} {v:Value} {l:List UInt8} (h:eQ B w v l):∃ a cap,v=.slice a l.length cap/\l.length<=cap/\cap<=9223372036854775807/\(l≠[]->∃ g,a=some ⟨g,0,none⟩/\B<=g/\g<w.heap.size):=by
 rcases h.2 with ⟨rfl,hn⟩ | ⟨g,cap,cur,rfl,hb,hg,h1,h2,h3,h4⟩
 ·exact ⟨none,0,by rw [hn],by omega,by omega,fun hne=>absurd (List.length_eq_zero_iff.1 hn) hne⟩
 ·exact ⟨_,cap,rfl,h1,h2,fun _=>⟨g,rfl,hb,(Array.getElem?_eq_some_iff.1 hg).1⟩⟩
theorem eQ.draws {B:Nat} {w:World} {v:Value} {l:List UInt8} (h:eQ B w v l) (k:Nat):eQ B (w.drewN k) v l:=fN h (aA.drewN w k)
def jq (_:World) (u:List Value) (x:UInt8):Prop:=u=[mu x]
theorem aU.ownB {B:Nat} {w:World} {v:Value} {l:List UInt8} (h:aU w B 5 1 v jq l):eQ B w v l:=by
 obtain ⟨us,h1,h2,h3,h4⟩:=h;have:us=l.map fun x=>[mu x]:=by
  apply List.ext_getElem?;intro i;rw [oF];by_cases hi:i<l.length
  ·have pg:i<us.length:=(by omega);have:=(h4 i us[i] l[i] (by simp [pg]) (by simp [hi])).now;simp only [jq] at this;simp [hi,pg,this]
  ·rw [oL (by omega),oL (by omega)];rfl
 rw [this,di] at h3;exact h3
def jN (bs l:List UInt8) (i:Nat):Prop:=l.length=bs.length/\∀ k,k<bs.length->l[k]?=if k<i\/bs.length<=k+i then bs[bs.length-1-k]? else bs[k]?
theorem jN.zero (bs:List UInt8):jN bs bs 0:=⟨rfl,fun k hk=>by rw [if_neg (by omega)]⟩
theorem jN.done {bs l:List UInt8} {i:Nat} (h:jN bs l i) (hi:bs.length<=2*i+1):l=bs.reverse:=by
 apply List.ext_getElem?;intro k;by_cases hk:k<bs.length
 ·rw [h.2 k hk,List.getElem?_reverse hk]
  split
  ·rfl
  ·have:bs.length-1-k=k:=(by omega);rw [this]
 ·rw [oL (by have:=h.1;omega),oL (by rw [List.length_reverse];omega)]
theorem jN.step {bs l:List UInt8} {i j:Nat} {x y:UInt8} (h:jN bs l i) (hj:i+j+1=bs.length) (pY:i<j) (hx:l[i]?=some x) (hy:l[j]?=some y):jN bs ((l.set i y).set j x) (i+1):=by
 have hl:=h.1;refine ⟨by simp [hl],fun k hk=>?_⟩;have h1:=h.2 i (by omega);have h2:=h.2 j (by omega);rw [if_neg (by omega)] at h1 h2;rw [oW,oW];by_cases e1:j=k
 ·subst e1;rw [if_pos rfl,if_pos (by simp [hl];omega),if_pos (by omega),show bs.length-1-j=i by omega,<- h1,hx]
 ·rw [if_neg e1];by_cases e2:i=k
  ·subst e2;rw [if_pos rfl,if_pos (by omega),if_pos (by omega),show bs.length-1-i=j by omega,<- h2,hy]
  ·rw [if_neg e2,h.2 k hk];by_cases c:k<i\/bs.length<=k+i;·rw [if_pos c,if_pos (by omega)]
   ·rw [if_neg c,if_neg (by omega)]
theorem g0_ (B:Nat) (bs:List UInt8) (v:Value) (w:World) (h:eQ B w v bs) :
  Calls prog 205 #[v] w fun e w'=>e=.returned (.tuple #[])/\eQ B w' v bs.reverse/\w.grownBy w' v.ownBlock:=by
 obtain ⟨a,cap,rfl,hl,hc,hg⟩:=h.form;have HW:=oA h;have HG:=oA hg;clear h hg
 go_enter func205,ntmps205
 go_wp2_with fail
 go_loopw [2,3] (fun i j wr=>∃ (x:Nat) (y:Int) (l:List UInt8),i=.int .i64 x/\j=.int .i64 y/\(x:Int)<=bs.length/\y<bs.length/\-2<y/\Hid ((x:Int)+y+1=bs.length)/\Hid (eQ B wr (.slice a bs.length cap) l)/\Hid (jN bs l x)/\Hid (w.grownBy wr (Value.slice a bs.length cap).ownBlock)) (fun i j _=>(intOf j-intOf i).toNat)
 case atStart=>exact ⟨0,_,bs,rfl,rfl,by omega,by omega,by omega,by unfold Hid;omega,HW,jN.zero bs,World.grownBy.refl _ _⟩
 case round =>
  obtain ⟨x,y,l,rfl,rfl,hx,hy,qz,xu,HO,HS,HGR⟩:=hrel;obtain ⟨wo,rfl⟩:∃ wo:World,wo=wr:=⟨_,rfl⟩;by_cases hlt:(x:Int)<y
  ·obtain ⟨j,rfl⟩:∃ j:Nat,y=j:=⟨y.toNat,by omega⟩;have hxy:=xu.out;obtain ⟨g,rfl,hg1,vv⟩:=HG (by rintro rfl;simp at hy;omega);have hll:=HS.1;obtain ⟨cx,hcx⟩:∃ c,l[x]?=some c:=⟨_,oB (by omega)⟩;obtain ⟨cy,sY⟩:∃ c,l[j]?=some c:=⟨_,oB (by omega)⟩;obtain ⟨c1,f1⟩:=HO.get hcx;obtain ⟨c2,f2⟩:=HO.get sY;have HS2:=oA (HS.step (by omega) (by omega) hcx sY);have HO2:=oA ((HO.set x cy).set j cx);have HN:=oA (fun k=>eQ.draws (HO2) k);have Hv:x<bs.length:=(by omega);have Cf:j<bs.length:=(by omega);have hne:¬ x=j:=(by omega);have xJ:¬ j=x:=(by omega);clear hxy hll hcx sY HG;go_wp2_with fail
   go_region
   all_goals
    go_wp2_with fail;go_roundw
    case rel =>
     refine ⟨x+1,_,_,by go_num,rfl,by omega,by omega,by omega,by have:=xu.out;unfold Hid;omega,fN HO2 (aA.drew _),HS2,?_⟩;exact gA (gA (gA HGR (fU _ g _ _)) (fU _ g _ _)) ((aA.drew _).grown _)
    case measure=>simp [intOf];omega
  ·have HF:=oA (HS.done (by have:=xu.out;omega));rw [HF.out] at HO;go_wp2_with fail;refine bodyPost_end (results_none rfl _ _ _) rfl ⟨rfl,HO,HGR⟩
structure im (l:List Nat) (i:Nat) (bs:List UInt8):Prop where
 dig:bs.all bz=true
 len:i<l.length->bs.length=9*i
 le:bs.length<=9*i
 val:dv bs=lv (l.take i)
 last:i=l.length->∃ c,bs.getLast?=some c/\c≠48
structure ji (l:List Nat) (i k n:Nat) (bs:List UInt8):Prop where
 dig:bs.all bz=true
 len:bs.length=9*i+k
 val:dv bs+10^bs.length*n=lv (l.take (i+1))
 lt:n<10^(9-k)
 last:i+1=l.length->n=0->∃ c,bs.getLast?=some c/\c≠48
theorem im.zero (l:List Nat) (h:l≠[]):im l 0 []:=⟨rfl,fun _=>rfl,by simp,rfl,fun e=>absurd (List.length_eq_zero_iff.1 e.symm) h⟩
theorem im.enter {l:List Nat} {i x:Nat} {bs:List UInt8} (h:im l i bs) (hc:ah l) (hx:l[i]?=some x):ji l i 0 x bs:=by
 have hi:=(oC.1 hx).1;refine ⟨h.dig,h.len hi,?_,hc.1.get hx,fun he h0=>?_⟩;·rw [h.val,h.len hi,iz hx,Z2T]
 ·exact absurd h0 (hc.2 x (by rw [<- he,Nat.add_sub_cancel];exact hx))
theorem ji.step {l:List Nat} {i k n:Nat} {bs:List UInt8} {c:UInt8} (h:ji l i k n bs) (hk:k<9) (hn:i+1<l.length\/0<n) (hc:c.toNat=48+n%10):ji l i (k+1) (n / 10) (bs++[c]):=by
 refine ⟨?_,by rw [oV,h.len];rfl,Z1o hc h.val,?_,fun he h0=>⟨c,by simp,?_⟩⟩
 ·rw [List.all_append,h.dig,Bool.true_and,List.all_cons,List.all_nil,Bool.and_true];exact oT (by omega)
 ·have:=h.lt;rw [show 9-k=(9-(k+1))+1 by omega,Nat.pow_succ] at this;omega
 ·rintro rfl;rw [show (48:UInt8).toNat=48 from rfl] at hc;omega
theorem ji.leave {l:List Nat} {i k n:Nat} {bs:List UInt8} (h:ji l i k n bs) (hk:k<=9) (hi:i<l.length) (hn:k=9\/(¬ i+1<l.length/\n=0)):im l (i+1) bs:=by
 have h0:n=0:=by
  rcases hn with rfl | ⟨-,h⟩
  ·have:=h.lt;rw [Nat.sub_self,Nat.pow_zero] at this;omega
  ·exact h
 have hv:=h.val;rw [h0,Nat.mul_zero,Nat.add_zero] at hv;exact ⟨h.dig,fun hlt=>by have:=h.len;omega,by have:=h.len;omega,hv,fun he=>h.last he h0⟩
theorem im.done {l:List Nat} {bs:List UInt8} (h:im l l.length bs):bs.reverse=(aE (lv l)).data.toList:=by
 obtain ⟨c,hc,Fo⟩:=h.last rfl;have hne:bs≠[]:=by rintro rfl;simp at hc
 have h1:=B0_ (l:=bs.reverse) (by rw [List.all_reverse];exact h.dig) (by simpa using hne) (.inl (by rw [List.head?_reverse,hc];simpa using Fo));rw [h1,s9_,h.val,List.take_length,fM]
theorem mW (l:List Nat) (v:Value) (w:World) (h:cV w v l) (hc:ah l) (hlen:l.length<=10000000000) :
  oX 172 #[v] w (.string (aE (lv l))):=by
 obtain ⟨a,cap,rfl,hl,pk,hcell⟩:=h.open;have HX:=oA hcell;have HC:=oA hc;clear h hcell hc;by_cases hn:l=[]
 ·subst hn;have HF:Hid (aE (lv [])=⟨#[48]⟩):=by unfold Hid aE;rw [ck,Lib.decDigits_one (by omega)];rfl
  rw [HF.out]
  go_enter func172,ntmps172
  go_wp2_with fail;go_ret;exact ⟨rfl,aA.refl _⟩
 ·obtain ⟨b,off,rfl,hb,hcell⟩:=HX hn;have HCELL:=oA hcell;have hpos:0<l.length:=List.length_pos_iff.2 hn;have BT:((l.length:Int) == 0)=false:=by rw [beq_eq_false_iff_ne];omega
  have HN:=oA hn;obtain ⟨c9,LI⟩:∃ c9:Nat,(9*(l.length:Int))=(c9:Int):=⟨9*l.length,by omega⟩;have Fm:c9<=90000000000:=by omega
  obtain ⟨i0,hi,pJ,hz1,hz2⟩:=info_parts Z4Z;have HI:=oA hi;have HZ0:=oA pJ;have HZ1:=oA hz1;have HZ2:=oA hz2;clear hi pJ hz1 hz2 HX hcell hn
  go_enter func172,ntmps172
  go_wp2_with (at_make;refine wpList_make_own _ rfl _ _ 241 rfl w.heap.size 5 i0 (.int .u8 0) 1 underlying241 HI HZ0 HZ1 _ _ _ c9 rfl rfl rfl ?c1 ?c2 ?c3 ?_)
  case c1=>rw [HZ2.out];omega
  case c2=>unfold maxLen;omega
  case c3=>exact oK _
  intro w1 hown oo;have HB0:Hid (aU w1 w.heap.size 5 1 (.slice (some ⟨w.heap.size,0,none⟩) 0 c9) jq []):=⟨[],rfl,by simp,by simpa using hown,by simp⟩;have hE1:=iO oo;have HS0:=oA (im.zero l HN);clear hown oo LI Fm;go_wp2_with fail
  go_loopw [3,16] (fun out t wr=>∃ (i:Nat) (bs:List UInt8),i<=l.length/\t=.int .i64 i/\aA w wr/\Hid (aU wr w.heap.size 5 1 out jq bs)/\Hid (im l i bs)) (fun _ t _=>l.length-(intOf t).toNat)
  case atStart=>exact ⟨0,[],by omega,rfl,hE1,HB0,HS0⟩
  case round =>
   obtain ⟨i,bs,hi,rfl,pV,HB,HS⟩:=hrel;obtain ⟨wo,rfl⟩:∃ wo:World,wo=wr:=⟨_,rfl⟩;clear HB0 HS0;by_cases hlt:i<l.length
   ·obtain ⟨x,hx⟩:∃ x,l[i]?=some x:=⟨_,oB hlt⟩;have g1:=pV.cell (HCELL i x hx);have hxb:=HC.1.get hx;have HK0:=oA (HS.enter HC hx);clear hx;go_wp2_with fail
    go_loopw [3,6,5] (fun out t n wr=>∃ (k m:Nat) (bs:List UInt8),k<=9/\t=.int .i64 k/\n=.int .u64 m/\m<1000000000/\aA w wr/\Hid (aU wr w.heap.size 5 1 out jq bs)/\Hid (ji l i k m bs)) (fun _ t _ _=>9-(intOf t).toNat)
    case atStart=>exact ⟨0,x,bs,by omega,rfl,rfl,hxb,pV,HB,HK0⟩
    case round =>
     obtain ⟨k,m,bs',hk,rfl,rfl,hm,tm,HBi,vJ⟩:=hrel;obtain ⟨wi,rfl⟩:∃ wi:World,wi=wr:=⟨_,rfl⟩;clear g1;by_cases vC:k<9/\(i+1<l.length\/0<m)
     ·obtain ⟨hk9,vC⟩:=vC;obtain ⟨d,hd⟩:=oZ (m%10);obtain ⟨q,hq⟩:=oZ (m / 10);have rm:(m:Int)%10=(d:Int):=(by omega);have CF:(m:Int) / 10=(q:Int):=(by omega);have Ih:d<=9:=(by omega);have AJ:q<1000000000:=(by omega);obtain ⟨ch,wF⟩:∃ ch:UInt8,ch.toNat=48+d:=⟨UInt8.ofNat (48+d),by rw [UInt8.toNat_ofNat'];omega⟩;have HK2:Hid (ji l i (k+1) q (bs'++[ch])):=by
       unfold Hid;rw [<- hq];exact vJ.step hk9 vC (by rw [wF,hd])
      have hsz:w.heap.size<=wi.heap.size:=tm.size;have HLL:Hid (bs'.length<100000000000):=(by have:=vJ.len;unfold Hid;omega);have HRR:Hid (∀ x:World,jq x [Value.int .u8 (48+(d:Int))] ch):=fun _=>by unfold jq mu;rw [wF];rfl
      clear hd hq wF;have FM:i+1<l.length\/(¬ i+1<l.length/\0<m):=(by omega);clear vC;rcases FM with sG | ⟨sG,My⟩
      all_goals
       go_wp2_with (at_builtin;go_must (refine Z0_ _ rfl _ _ 241 rfl w.heap.size 5 (.int .u8 0) 1 1 underlying241 Z4Z rfl (by decide) u3 jq bs' ch #[.int .u8 (48+d)] 5 rfl HBi rfl rfl ?_ (fun x _=>HRR x) HLL (by decide) hsz ?_))
       all_goals first | (simp [Value.oneCell'];done) | skip
       intro v' w5 o8 pS hb5 qu _;have HB5:=oA o8;have HX5:=oA (Below.trans tm hb5);clear o8 pS hb5;go_wp2_with fail;go_roundw
       case rel=>exact ⟨k+1,q,_,by omega,by go_num,rfl,AJ,HX5,HB5,HK2⟩
       case measure=>simp [intOf];omega
     ·have Kh:k=9\/(k<9/\¬ i+1<l.length/\m=0):=(by omega);have HS2:Hid (im l (i+1) bs'):=vJ.leave hk hlt (by omega);clear vC;rcases Kh with rfl | ⟨hk9,sG,rfl⟩
      all_goals
       go_wp2_with fail;go_roundw
       case rel=>exact ⟨i+1,bs',by omega,by go_num,tm,HBi,HS2⟩
       case measure=>simp [intOf];omega
   ·obtain rfl:l.length=i:=(by omega);have hsh:=HB.out;have HDONE:=oA (HS.done);obtain ⟨c,hc,-⟩:=HS.last rfl;have ry:0<bs.length:=(by cases bs with | nil=>simp at hc | cons _ _=>simp);have HLE:Hid (bs.length<=90000000000):=(by have:=HS.le;unfold Hid;omega);have hown:=HB.ownB;obtain ⟨g,capb,rfl,hg1,vv,tJ,yk⟩:=gF hown ry;have HREV:=oA (g0_ w.heap.size bs _ wo hown);unfold maxLen at yk;have hcv:∀ w',eQ w.heap.size w' (.slice (some ⟨g,0,none⟩) bs.length capb) bs.reverse->(convert 241 53 (.slice (some ⟨g,0,none⟩) bs.length capb)).run prog w'=.ok (.string (aE (lv l))) w':=by
     intro w' ho;have e:aE (lv l)=⟨bs.reverse.toArray⟩:=by
      have h1:=HDONE.out;generalize aE (lv l)=nb at *
      cases nb with | mk d=>simp only at h1;rw [h1]
     rw [e]
     have:=run_convert_bytes_back w' 241 53 5 ⟨g,0,none⟩ capb bs.reverse underlying241 underlying5 underlying53 (by
      intro j hj;have hx:=(ho.get (k:=j) (x:=bs.reverse[j]) (oB hj)).1;rw [show (⟨g,0,none⟩:Addr).add j=⟨g,j,none⟩ by unfold Addr.add;split <;> simp_all]
      exact hx)
     rw [List.length_reverse] at this;exact this
    have HCV:=oA hcv;clear hc hsh hown hcv ry;go_wp2_with fail;refine HREV.mono ?_;rintro e w5 ⟨rfl,CP,pS⟩;have hcv:=HCV _ CP;have HX5:Hid (aA w w5):=Below.trans pV ⟨pS.os,pS.tape,pS.output,pS.size,fun k hk=>pS.block k (oI hk pV.size) (by simp only [Value.ownBlock];intro e;cases e;omega)⟩;clear CP pS HREV HCV;go_wp2_with fail;go_ret;exact ⟨rfl,HX5⟩
theorem N9_ (p q:List Nat) (u v:Value) (w:World) (hu:cV w u p) (hv:cV w v q) (hp:ah p) (hq:ah q) (sv:p.length<=10000000000) (hlq:q.length<=10000000000) :
  oX 192 #[u,v] w (.int .i64 (bg (lv p) (lv q))):=by
 obtain ⟨a,ca,rfl,xQ,wT,qS⟩:=hu.open;obtain ⟨b,cb,rfl,hlb,wR,hcv⟩:=hv.open;have HP:=oA hp;have HQ:=oA hq;have HU:=oA qS;have HV:=oA hcv;clear hu hv qS hcv hp hq;by_cases hl:p.length=q.length
 ·have sW:((p.length:Int) != (q.length:Int))=false:=by simp [hl]
  have HL:=oA hl;have Ep:p.length<=q.length:=by omega
  have Eo:q.length<=p.length:=by omega
  clear hl
  go_enter func192,ntmps192
  go_wp2_with fail
  go_loopw [5] (fun i wr=>∃ y:Int,i=.int .i64 y/\y<p.length/\-2<y/\Hid (∃ k:Nat,y+1=k/\k<=p.length/\p.drop k=q.drop k)/\aA w wr) (fun i _=>(intOf i+1).toNat)
  case atStart=>exact ⟨_,rfl,by omega,by omega,⟨p.length,by omega,oK _,by rw [List.drop_length,HL.out,List.drop_length]⟩,aA.refl _⟩
  case round =>
   obtain ⟨y,rfl,tA,qz,HK,hE⟩:=hrel;obtain ⟨wo,rfl⟩:∃ wo:World,wo=wr:=⟨_,rfl⟩;by_cases h0:0<=y
   ·obtain ⟨k,rfl⟩:∃ k:Nat,y=k:=⟨y.toNat,by omega⟩;have AV:k<p.length:=(by omega);have AU:k<q.length:=(by omega);obtain ⟨x,hx⟩:∃ x,p[k]?=some x:=⟨_,oB AV⟩;obtain ⟨z,hz⟩:∃ z,q[k]?=some z:=⟨_,oB AU⟩;obtain ⟨ba,oa,rfl,-,qE⟩:=HU (by rintro rfl;simp at AV);obtain ⟨bb,ob,rfl,-,rq⟩:=HV (by rintro rfl;simp at AU);have g1:=hE.cell (qE k x hx);have g2:=hE.cell (rq k z hz);have HD:Hid (p.drop (k+1)=q.drop (k+1)):=by
     obtain ⟨k',e,-,h⟩:=HK.out;have:k'=k+1:=(by omega);rw [this] at h;exact h
    have HX:=oA hx;have HZ:=oA hz;clear hx hz qE rq;rcases Nat.lt_trichotomy x z with tw | tw | tw
    ·have hb:decide (x<z)=true:=oT (by omega);have HR:=oA (kW (c3_ HP.1 HQ.1 HX HZ HD tw));clear tw;go_wp2_with fail
     go_quiet (fail)
     go_wp2_with fail;go_ret;rw [HR.out];exact ⟨rfl,aA.draws hE _⟩
    ·subst tw;have hb:decide (x<x)=false:=oS (by omega);have HK2:Hid (∃ k':Nat,((k:Int)-1)+1=k'/\k'<=p.length/\p.drop k'=q.drop k'):=by
      refine ⟨k,by omega,by omega,?_⟩;show p.drop k=q.drop k;rw [List.drop_eq_getElem_cons AV,List.drop_eq_getElem_cons AU,HD.out];congr 1;have h1:=(oC.1 HX).2;have h2:=(oC.1 HZ).2;rw [h1,h2]
     go_wp2_with fail
     go_quiet (fail)
     go_wp2_with fail
     go_quiet (fail)
     go_wp2_with fail;go_roundw
     case rel=>exact ⟨_,rfl,by omega,by omega,HK2,by first | exact aA.draws (aA.draws hE _) _ | exact aA.draws hE _⟩
     case measure=>simp [intOf]
    ·have hb:decide (x<z)=false:=oS (by omega);have hb2:decide (z<x)=true:=oT (by omega);have HR:=oA (mw (c3_ HQ.1 HP.1 HZ HX HD.symm tw));clear tw;go_wp2_with fail
     go_quiet (fail)
     go_wp2_with fail
     go_quiet (fail)
     go_wp2_with fail;go_ret;rw [HR.out];exact ⟨rfl,by first | exact aA.draws (aA.draws hE _) _ | exact aA.draws hE _⟩
   ·have HR:Hid (bg (lv p) (lv q)=0):=by
     obtain ⟨k,e,-,h⟩:=HK.out;have:k=0:=(by omega);subst this;rw [List.drop_zero,List.drop_zero] at h;exact Z1J (by rw [h])
    go_wp2_with fail;go_ret;rw [HR.out];exact ⟨rfl,hE⟩
 ·have sW:((p.length:Int) != (q.length:Int))=true:=by simp;omega
  rcases Nat.lt_or_gt_of_ne hl with h | h
  ·have HR:=oA (kW (ah.lt_of_length HP.1 HQ h));have HM:Hid (min 1 (max (-1) ((p.length:Int)-(q.length:Int)))=-1):=(by unfold Hid;omega);rw [HR.out];clear HR hl
   go_enter func192,ntmps192
   go_wp2_with fail;go_ret;exact ⟨rfl,aA.refl _⟩
  ·have HR:=oA (mw (ah.lt_of_length HQ.1 HP h));have HM:Hid (min 1 (max (-1) ((p.length:Int)-(q.length:Int)))=1):=(by unfold Hid;omega);rw [HR.out];clear HR hl
   go_enter func192,ntmps192
   go_wp2_with fail;go_ret;exact ⟨rfl,aA.refl _⟩
structure jl (p q:List Nat) (i:Nat) (L:List Nat):Prop where
 len:L.length=p.length+q.length
 pcs:aM L
 val:lv L=lv (p.take i)*lv q
 zero:∀ j,i+q.length<=j->j<L.length->L[j]?=some 0
structure jk (p q:List Nat) (i x k c:Nat) (L:List Nat):Prop where
 len:L.length=p.length+q.length
 pcs:aM L
 lt:c<1000000000
 val:lv L+c*pB (i+k)=lv (p.take i)*lv q+x*(lv (q.take k)*pB i)
 zero:∀ j,i+q.length<=j->j<L.length->L[j]?=some 0
theorem jl.start (p q:List Nat):jl p q 0 (List.replicate (p.length+q.length) 0) :=
 ⟨by simp,aM.zeros _,by rw [x6_,List.take_zero,ck,Nat.zero_mul],fun j _ h=>by rw [List.getElem?_replicate,if_pos (by simpa using h)]⟩
theorem jl.enter {p q L:List Nat} {i:Nat} (x:Nat) (h:jl p q i L):jk p q i x 0 0 L :=
 ⟨h.len,h.pcs,by omega,by rw [h.val,List.take_zero,ck];simp,h.zero⟩
theorem jk.step {p q L:List Nat} {i x k c a b y c':Nat} (h:jk p q i x k c L) (hk:q[k]?=some b) (ha:L[i+k]?=some a) (hx:x<1000000000) (hc:c'=c+a+x*b) (hcl:c' / 1000000000<1000000000) (hy:y=c'%1000000000) :
  jk p q i x (k+1) (c' / 1000000000) (L.set (i+k) y):=by
 have hkl:=(oC.1 hk).1;refine ⟨by rw [List.length_set];exact h.len,h.pcs.set _ _ (by omega),hcl,?_,fun j hj xU=>?_⟩
 ·have:=U6_ (P:=pB (i+k)) (P':=pB (i+k+1)) (c:=c) (x:=a) (y:=y) (ab:=x*b) (acc2:=x*(lv (q.take (k+1))*pB i)) (ew _) h.val hc hy (na y ha) (by
   rw [iz hk,lA];grind)
  exact this
 ·rw [oW,if_neg (by omega)];exact h.zero j hj (by simpa using xU)
theorem jk.leave {p q L:List Nat} {i x c:Nat} (h:jk p q i x q.length c L) (hx:p[i]?=some x):jl p q (i+1) (L.set (i+q.length) c)/\L[i+q.length]?=some 0:=by
 have hi:=(oC.1 hx).1;have h0:=h.zero (i+q.length) (oK _) (by rw [h.len];omega);refine ⟨⟨by rw [List.length_set];exact h.len,h.pcs.set _ _ h.lt,?_,fun j hj xU=>?_⟩,h0⟩
 ·have h1:=na c h0;have h2:=h.val;rw [List.take_length] at h2;rw [iz hx];have:(lv (p.take i)+pB i*x)*lv q=lv (p.take i)*lv q+x*(lv q*pB i):=by grind
  have:c*pB (i+q.length)=pB (i+q.length)*c:=Nat.mul_comm _ _;omega
 ·rw [oW,if_neg (by omega)];exact h.zero j (by omega) (by simpa using xU)
theorem p5_ {a b:Nat} (ha:a<1000000000) (hb:b<1000000000):a*b<=999999998000000001:=by
 have:a*b<=999999999*999999999:=Nat.mul_le_mul (by omega) (by omega);omega
theorem m2_ (p q:List Nat) (u v:Value) (w:World) (hu:cV w u p) (hv:cV w v q) (hp:aM p) (hq:aM q) (sv:p.length<=5000000000) (hlq:q.length<=5000000000) :
  Calls prog 174 #[u,v] w fun e w'=>∃ r l,e=.returned r/\Hid (aZ w.heap.size w' r l/\ah l/\lv l=lv p*lv q/\l.length<=p.length+q.length)/\aA w w':=by
 obtain ⟨a,ca,rfl,xQ,wT,qS⟩:=hu.open;obtain ⟨b,cb,rfl,hlb,wR,hcv⟩:=hv.open;have HP:=oA hp;have HQ:=oA hq;have HU:=oA qS;have HV:=oA hcv;obtain ⟨i0,hi,pJ,hz1,hz2⟩:=info_parts jU;have HI:=oA hi;have HZ0:=oA pJ;have HZ1:=oA hz1;have HZ2:=oA hz2;obtain ⟨n,hn⟩:∃ n:Nat,n=p.length+q.length:=⟨_,rfl⟩;have D1:(p.length:Int)+(q.length:Int)=(n:Int):=by omega
 have Ke:n<=10000000000:=by omega
 have hnp:p.length<=n:=by omega
 have HN:=oA hn;clear hi pJ hz1 hz2 hu hv qS hcv hp hq hn
 go_enter func174,ntmps174
 go_wp2_with (at_make;refine wpList_make_full _ rfl _ _ 209 rfl w.heap.size 204 i0 (.int .u64 0) 1 underlying209 HI HZ0 HZ1 _ _ _ _ n rfl rfl rfl rfl ?c1 ?c2 ?c3 ?_)
 case c1=>rw [HZ2.out];omega
 case c2=>unfold maxLen;omega
 case c3=>exact oK _
 intro w1 hown oo;have hE1:=iO oo;have HO0:=oA (aZ.made hown);have HS0:Hid (jl p q 0 (List.replicate n 0)):=by unfold Hid;rw [HN.out];exact jl.start p q
 clear hown oo;go_wp2_with fail
 go_loopw [19] (fun t wr=>∃ (i:Nat) (L:List Nat),i<=p.length/\t=.int .i64 i/\aA w wr/\Hid (aZ w.heap.size wr (.slice (some ⟨w.heap.size,0,none⟩) n n) L)/\Hid (jl p q i L)) (fun t _=>p.length-(intOf t).toNat)
 case atStart=>exact ⟨0,_,by omega,rfl,hE1,HO0,HS0⟩
 case round =>
  obtain ⟨i,L,hi,rfl,pV,HO,HS⟩:=hrel;obtain ⟨wo,rfl⟩:∃ wo:World,wo=wr:=⟨_,rfl⟩;clear HO0 HS0;by_cases hlt:i<p.length
  ·obtain ⟨x,hx⟩:∃ x,p[i]?=some x:=⟨_,oB hlt⟩;obtain ⟨ba,oa,rfl,-,qE⟩:=HU (by rintro rfl;simp at hlt);have g1:=pV.cell (qE i x hx);have hxb:=HP.get hx;have HX:=oA hx;have HK0:=oA (HS.enter x);clear hx qE;go_wp2_with fail;clear g1
   go_loopw [26,8] (fun t c wr=>∃ (k cc:Nat) (L:List Nat),k<=q.length/\t=.int .i64 k/\c=.int .u64 cc/\cc<1000000000/\aA w wr/\Hid (aZ w.heap.size wr (.slice (some ⟨w.heap.size,0,none⟩) n n) L)/\Hid (jk p q i x k cc L)) (fun t _ _=>q.length-(intOf t).toNat)
   case atStart=>exact ⟨0,0,L,by omega,rfl,rfl,by omega,pV,HO,HK0⟩
   case round =>
    obtain ⟨k,cc,L',hk,rfl,rfl,qX,tm,zA,vJ⟩:=hrel;obtain ⟨wi,rfl⟩:∃ wi:World,wi=wr:=⟨_,rfl⟩;have Kv:i+q.length<n:=(by have:=HN.out;omega);have GB:Hid (L'.length=n):=(by unfold Hid;rw [vJ.out.len,HN.out]);by_cases hkl:k<q.length
    ·obtain ⟨z,hz⟩:∃ z,q[k]?=some z:=⟨_,oB hkl⟩;obtain ⟨bb,ob,rfl,-,rq⟩:=HV (by rintro rfl;simp at hkl);have g2:=tm.cell (rq k z hz);obtain ⟨y,hy⟩:∃ y,L'[i+k]?=some y:=⟨_,oB (by have:=GB.out;omega)⟩;obtain ⟨g3,f3⟩:=zA.get hy;have hyb:=vJ.pcs.get hy;have hzb:=HQ.get hz;have hm:=p5_ hxb hzb;obtain ⟨m,hmm⟩:=oZ (x*z);rw [hmm] at hm;have xM:(x:Int)*(z:Int)=(m:Int):=(by rw [<- hmm];exact (Int.natCast_mul _ _).symm);obtain ⟨c',qp⟩:=oc (cc+y+m);have D9:(cc:Int)+((y:Int)+(m:Int))=(c':Int):=(by omega);obtain ⟨r,hr⟩:=oc (c'%1000000000);obtain ⟨d,hd⟩:=oc (c' / 1000000000);have qJ:(c':Int)%1000000000=(r:Int):=(by omega);have rm:(c':Int) / 1000000000=(d:Int):=(by omega);have sN:d<1000000000:=(by omega);have Cr:c'<1000000000000000000:=(by omega);have AI:r<1000000000:=(by omega);have HK2:Hid (jk p q i x (k+1) d (L'.set (i+k) r)):=by
      unfold Hid;rw [hd];exact vJ.step hz hy hxb (by rw [qp,hmm]) (by omega) hr
     have HO2:=oA (zA.set (i+k) r);have hik:i+k<n:=(by omega);have qI:w.heap.size<=wi.heap.size:=tm.size;clear hz hy rq hmm qp hr hd;go_wp2_with fail;go_roundw
     case rel=>exact ⟨k+1,d,_,by omega,by go_num,rfl,sN,Below.setCell tm (p:=⟨w.heap.size,i+k,none⟩) (oK _) _,HO2,HK2⟩
     case measure=>simp [intOf];omega
    ·obtain rfl:q.length=k:=(by omega);have hend:=vJ.leave HX;obtain ⟨g3,f3⟩:=zA.get hend.2;have HS2:=oA hend.1;have HO2:=oA (zA.set (i+q.length) cc);clear hend;go_wp2_with fail;go_roundw
     case rel=>exact ⟨i+1,_,by omega,by go_num,Below.setCell tm (p:=⟨w.heap.size,i+q.length,none⟩) (oK _) _,HO2,HS2⟩
     case measure=>simp [intOf];omega
  ·obtain rfl:p.length=i:=(by omega);have HT:=oA (kJ w.heap.size L _ wo HO HS.pcs);have HV:=HS.val;rw [List.take_length] at HV;have HV:=oA HV;have HL:=oA HS.len;go_wp2_with fail;refine HT.mono ?_;rintro e w5 ⟨r,l,rfl,hr,kk,rfl⟩;have HR:=oA hr;clear hr HT;go_wp2_with fail;go_ret;exact ⟨r,l,rfl,⟨HR.out.out.1,HR.out.out.2.1,HR.out.out.2.2.1.trans HV,by rw [<- HL.out];exact HR.out.out.2.2.2⟩,aA.draws pV _⟩
theorem B8_ (p:List Nat) (n:Nat) (u:Value) (w:World) (hu:cV w u p) (hp:aM p) (hn:n<1000000000) (AO:0<n) (sv:p.length<=5000000000) :
  Calls prog 212 #[u,.int .u64 n] w fun e w'=>∃ r l,e=.returned r/\Hid (aZ w.heap.size w' r l/\ah l/\lv l=lv p*n/\l.length<=p.length+1)/\aA w w':=by
 have HU:=oA hu;have HP:=oA hp;have HO:Hid (aZ w.heap.size (w.alloc (.cells #[.int .u64 n] 204)) (.slice (some ⟨w.heap.size,0,none⟩) 1 1) [n]):=by
  have:=World.ownsRow_lit (e:=204) (size:=1) w #[Value.int .u64 n] 1 (oK _) (by unfold maxLen;omega) rfl;exact this
 have Bi:Hid (aM [n]):=aM.cons hn aM.nil;have HT:=oA (kJ w.heap.size [n] _ _ HO Bi);clear hu hp
 go_enter func212,ntmps212
 go_wp2_with fail;refine HT.mono ?_;rintro e w1 ⟨r,l,rfl,hr,kk,rfl⟩;have HR:=oA hr;have HE1:Hid (aA w ((w.alloc (.cells #[.int .u64 n] 204)).drewN kk)):=aA.draws (aA.alloc _ _) _;have HM:=oA (m2_ p l u r _ (cV.ext HU HE1) HR.out.out.1.at HP HR.out.out.2.1.1 sv (by have:=HR.out.out.2.2.2;simp at this;omega));clear hr HT;go_wp2_with fail;refine HM.mono ?_;rintro e w2 ⟨r2,l2,rfl,pX,hE2⟩;have HR2:=oA pX;have HE2:=oA (aA.trans HE1 hE2);clear pX hE2 HM;go_wp2_with fail;go_ret;refine ⟨r2,l2,rfl,⟨HR2.out.out.1.base HE1.size,HR2.out.out.2.1,?_,?_⟩,HE2⟩;·rw [HR2.out.out.2.2.1,HR.out.out.2.2.1,eW,ck,Nat.mul_zero,Nat.add_zero]
 ·have h1:=HR2.out.out.2.2.2;have h2:=HR.out.out.2.2.2;simp at h2;omega
structure iF (p:List Nat) (n k rest:Nat) (L:List Nat):Prop where
 len:L.length=p.length
 pcs:aM L
 lt:rest<n
 val:lv (p.drop k)=n*lv (L.drop k)+rest
theorem iF.start (p:List Nat) {n:Nat} (hn:0<n):iF p n p.length 0 (List.replicate p.length 0) :=
 ⟨by simp,aM.zeros _,hn,by rw [List.drop_length,List.drop_eq_nil_of_le (by simp),ck];simp⟩
theorem iF.step {p L:List Nat} {n k rest x:Nat} (h:iF p n (k+1) rest L) (hp:aM p) (hx:p[k]?=some x) (hn:0<n) :
  iF p n k ((rest*1000000000+x)%n) (L.set k ((rest*1000000000+x) / n)):=by
 have hk:=(oC.1 hx).1;refine ⟨by rw [List.length_set];exact h.len,h.pcs.set _ _ (a6_ h.lt (hp.get hx)),Nat.mod_lt _ hn,?_⟩;have e:lv ((L.set k ((rest*1000000000+x) / n)).drop k)=(rest*1000000000+x) / n+1000000000*lv (L.drop (k+1)):=by
  rw [eu (k:=k) (x:=(rest*1000000000+x) / n) (by rw [oW,if_pos rfl,if_pos (by rw [h.len];exact hk)])];rw [List.drop_set_of_lt (by omega)]
 rw [e];exact g5_ h.val (eu hx) hn
theorem n1_ (p:List Nat) (n:Nat) (u:Value) (w:World) (hu:cV w u p) (hp:aM p) (hn:n<1000000000) (AO:0<n) (sv:p.length<=10000000000) :
  Calls prog 193 #[u,.int .u64 n] w fun e w'=>∃ r l,e=.returned (.tuple #[r,.int .u64 ((lv p%n:Nat):Int)])/\Hid (aZ w.heap.size w' r l/\ah l/\lv l=lv p / n/\l.length<=p.length)/\aA w w':=by
 obtain ⟨a,ca,rfl,xQ,wT,qS⟩:=hu.open;have HP:=oA hp;have HU:=oA qS;obtain ⟨i0,hi,pJ,hz1,hz2⟩:=info_parts jU;have HI:=oA hi;have HZ0:=oA pJ;have HZ1:=oA hz1;have HZ2:=oA hz2;have HS0:=oA (iF.start p AO);have BT:((n:Int) == 0)=false:=by rw [beq_eq_false_iff_ne];omega
 have Kb:¬ (n:Int)=0:=by omega
 clear hi pJ hz1 hz2 hu qS hp
 go_enter func193,ntmps193
 go_wp2_with (at_make;refine wpList_make_full _ rfl _ _ 209 rfl w.heap.size 204 i0 (.int .u64 0) 1 underlying209 HI HZ0 HZ1 _ _ _ _ p.length rfl rfl rfl rfl ?c1 ?c2 ?c3 ?_)
 case c1=>rw [HZ2.out];omega
 case c2=>unfold maxLen;omega
 case c3=>exact oK _
 intro w1 hown oo;have hE1:=iO oo;have HO0:=oA (aZ.made hown);clear hown oo;go_wp2_with fail
 go_loopw [7,8] (fun r t wr=>∃ (rr:Nat) (y:Int) (L:List Nat),r=.int .u64 rr/\t=.int .i64 y/\rr<n/\y<p.length/\-2<y/\aA w wr/\Hid (aZ w.heap.size wr (.slice (some ⟨w.heap.size,0,none⟩) p.length p.length) L)/\Hid (∃ k:Nat,y+1=k/\iF p n k rr L)) (fun _ t _=>(intOf t+1).toNat)
 case atStart=>exact ⟨0,_,_,rfl,rfl,AO,by omega,by omega,hE1,HO0,⟨p.length,by omega,HS0⟩⟩
 case round =>
  obtain ⟨rr,y,L,rfl,rfl,qv,tA,qz,pV,HO,HS⟩:=hrel;obtain ⟨wo,rfl⟩:∃ wo:World,wo=wr:=⟨_,rfl⟩;clear HO0 HS0;by_cases hlt:0<=y
  ·obtain ⟨j,rfl⟩:∃ j:Nat,y=j:=⟨y.toNat,by omega⟩;have FF:j<p.length:=(by omega);obtain ⟨x,hx⟩:∃ x,p[j]?=some x:=⟨_,oB FF⟩;obtain ⟨ba,oa,rfl,-,qE⟩:=HU (by rintro rfl;simp at FF);have g1:=pV.cell (qE j x hx);have hxb:=HP.get hx;have HSJ:Hid (iF p n (j+1) rr L):=by
    obtain ⟨k,e,h⟩:=HS.out;have:k=j+1:=(by omega);rw [this] at h;exact h
   obtain ⟨z,hz⟩:∃ z,L[j]?=some z:=⟨_,oB (by rw [HSJ.out.len];exact FF)⟩;obtain ⟨g3,f3⟩:=HO.get hz;obtain ⟨t,ht⟩:=oc (rr*1000000000+x);have vh:(rr:Int)*1000000000+(x:Int)=(t:Int):=(by omega);have htb:t<1000000000000000000:=(by omega);obtain ⟨q,hq⟩:=oc (t / n);obtain ⟨m,hm⟩:=oc (t%n);have CF:(t:Int) / (n:Int)=(q:Int):=(by rw [hq];exact (Int.natCast_ediv _ _).symm);have xM:(t:Int)%(n:Int)=(m:Int):=(by rw [hm];exact (Int.natCast_emod _ _).symm);have KT:(t:Int).tdiv (n:Int)=(q:Int):=(by rw [Int.tdiv_eq_ediv_of_nonneg (by omega),CF]);have E4:(t:Int).tmod (n:Int)=(m:Int):=(by rw [Int.tmod_eq_emod_of_nonneg (by omega),xM]);have Kf:m<n:=(by rw [hm];exact Nat.mod_lt _ AO);have HS2:Hid (iF p n j m (L.set j q)):=by
    unfold Hid;rw [hq,hm,ht];exact HSJ.step HP hx AO
   have AJ:q<1000000000:=(by rw [hq,ht];exact a6_ qv hxb);have HO2:=oA (HO.set j q);have MO:Hid (∃ k:Nat,((j:Int)-1)+1=k/\iF p n k m (L.set j q)):=⟨j,by omega,HS2⟩;clear hx qE hz ht hq hm;go_wp2_with fail;go_roundw
   case rel=>exact ⟨m,_,_,rfl,rfl,Kf,by omega,by omega,Below.setCell pV (p:=⟨w.heap.size,j,none⟩) (oK _) _,HO2,MO⟩
   case measure=>simp [intOf]
  ·have HSZ:Hid (iF p n 0 rr L):=by
    obtain ⟨k,e,h⟩:=HS.out;have:k=0:=(by omega);rw [this] at h;exact h
   have hv:=HSZ.val;rw [List.drop_zero,List.drop_zero] at hv;have HQ:Hid (lv L=lv p / n/\rr=lv p%n):=by
    unfold Hid;rw [hv,Nat.mul_add_div AO,Nat.mul_add_mod,Nat.div_eq_of_lt qv,Nat.mod_eq_of_lt qv];omega
   have HT:=oA (kJ w.heap.size L _ wo HO HSZ.pcs);clear hv;go_wp2_with fail;refine HT.mono ?_;rintro e w5 ⟨r,l,rfl,hr,kk,rfl⟩;have HR:=oA hr;clear hr HT;go_wp2_with fail;go_ret2;exact ⟨r,l,by rw [<- HQ.out.2];rfl,⟨HR.out.out.1,HR.out.out.2.1,HR.out.out.2.2.1.trans HQ.1,by rw [<- HSZ.out.len];exact HR.out.out.2.2.2⟩,aA.draws pV _⟩
end Go.Proofs.YtjlkkofmojgipaaGreatDoor
