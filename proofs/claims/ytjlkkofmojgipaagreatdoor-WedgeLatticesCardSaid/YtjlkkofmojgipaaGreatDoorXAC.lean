import Derived.Test.YtjlkkofmojgipaaGreatDoorXAB
import Derived.Test.YtjlkkofmojgipaaGreatDoorXAA
import Derived.WalkSmall
import Derived.IntWalk
import Derived.OwnWalk
import Derived.Lib.ConvBytes
import Derived.RegionTactic
import Derived.ChangeAlike
set_option linter.unusedVariables false
set_option linter.unusedSimpArgs false
set_option maxRecDepth 1000000
set_option maxHeartbeats 4000000
namespace Go.Proofs.YtjlkkofmojgipaaGreatDoor
open Go.RowKit Go.Proofs.Tryz
theorem jn:(prog.info? 204).map (fun i=>(i.zero,i.size,i.bytes))=some (some (.int .u64 0),1,8):=by kernel_rfl
theorem Z4S:(prog.info? 5).map (fun i=>(i.zero,i.size,i.bytes))=some (some (.int .u8 0),1,1):=by kernel_rfl
def pcV (x:Nat):Value:=.int .u64 x
def ae (B:Nat) (w:World) (v:Value) (l:List Nat):Prop:=w.ownsRow B 204 1 v l.length (l.map pcV)
def pcR (_:World) (u:List Value) (x:Nat):Prop:=u=[pcV x]
theorem pcR.mono:jF pcR:=fun _ _ _ _ _ h=>h
abbrev dI (w:World) (v:Value) (l:List Nat):Prop:=aI 1 pcR w v l
theorem dI.ext {w w':World} {v:Value} {l:List Nat} (h:dI w v l) (he:aC w w'):dI w' v l:=aI.ext pcR.mono h he
theorem ae.at {B:Nat} {w:World} {v:Value} {l:List Nat} (h:ae B w v l):dI w v l:=by
 refine ⟨l.map fun x=>[pcV x],by simp,by simp,?_,?_⟩
 ·have:=dn.of_owns h
  rwa [eI]
 ·intro j u x hu hx;simp only [oE,hx,Option.map_some,Option.some.injEq] at hu;exact hu.symm
theorem ae.ext {B:Nat} {w w':World} {v:Value} {l:List Nat} (h:ae B w v l) (he:aC w w'):ae B w' v l:=fi h he
theorem ae.form {B:Nat} {w:World} {v:Value} {l:List Nat} (h:ae B w v l):∃ a cap,v=.slice a l.length cap/\l.length<=cap/\cap<=9223372036854775807/\(l≠[]->∃ g,a=some ⟨g,0,none⟩/\B<=g/\g<w.heap.size):=by
 rcases h.2 with ⟨rfl,hn⟩ | ⟨g,cap,cur,rfl,hb,hg,h1,h2,h3,h4⟩
 ·exact ⟨none,0,by rw [hn],by omega,by omega,fun hne=>absurd (List.length_eq_zero_iff.1 hn) hne⟩
 ·exact ⟨_,cap,rfl,h1,h2,fun _=>⟨g,rfl,hb,(Array.getElem?_eq_some_iff.1 hg).1⟩⟩
theorem ae.base {B B':Nat} {w:World} {v:Value} {l:List Nat} (h:ae B w v l) (hb:B'<=B):ae B' w v l:=by
 refine ⟨h.1,?_⟩;rcases h.2 with h' | ⟨g,cap,cur,e,hg,rest⟩
 ·exact .inl h'
 ·exact .inr ⟨g,cap,cur,e,oI hb hg,rest⟩
theorem ae.nil (B:Nat) (w:World):ae B w (.slice none 0 0) []:=World.ownsRow_nil w B 204 1
theorem ae.get {B g n cap:Nat} {w:World} {l:List Nat} (h:ae B w (.slice (some ⟨g,0,none⟩) n cap) l) {k x:Nat} (hx:l[k]?=some x) :
  w.cell? ⟨g,k,none⟩=some (.int .u64 x)/\w.frozen? ⟨g,k,none⟩=false:=by
 have hk:k<l.length:=(n_.1 hx).1;have hn:n=l.length:=by
  rcases h.2 with ⟨e,_⟩ | ⟨g',cap',cur,e,_⟩
  ·cases e
  ·simp only [Value.slice.injEq] at e;exact e.2.1
 subst hn;exact ⟨(World.ownsRow.cellAt h k (by simpa using hk)).trans (by simp [hx,pcV]),World.ownsRow.frozenAt h k⟩
theorem ae.set {B g n cap:Nat} {w:World} {l:List Nat} (h:ae B w (.slice (some ⟨g,0,none⟩) n cap) l) (k x:Nat) :
  ae B (w.setCell ⟨g,k,none⟩ (.int .u64 x)) (.slice (some ⟨g,0,none⟩) n cap) (l.set k x):=by
 have hn:n=l.length:=by
  rcases h.2 with ⟨e,_⟩ | ⟨g',cap',cur,e,_⟩
  ·cases e
  ·simp only [Value.slice.injEq] at e;exact e.2.1
 subst hn;unfold ae at h |-;rw [List.map_set,List.length_set];exact (World.ownsRow.stored h k _).1
theorem ae.take {B g n cap:Nat} {w:World} {l:List Nat} (h:ae B w (.slice (some ⟨g,0,none⟩) n cap) l) (m:Nat) (hm:m<=l.length) :
  ae B w (.slice (some ⟨g,0,none⟩) m cap) (l.take m):=by
 have hl:(l.take m).length=m:=by rw [oF];omega
 refine ⟨by rw [List.length_map,Nat.mul_one],.inr ?_⟩;rcases h.2 with ⟨e,_⟩ | ⟨g',cap',cur,e,hb,hg,h1,h2,h3,h4⟩
 ·cases e
 ·simp only [Value.slice.injEq,Option.some.injEq,Addr.mk.injEq] at e;obtain ⟨⟨rfl,-,-⟩,rfl,rfl⟩:=e;refine ⟨g,cap,cur,by rw [hl],hb,hg,by omega,h2,h3,?_⟩;rw [Nat.mul_one] at h4 |-;rw [List.map_take,<- h4,List.take_take,hl,Nat.min_eq_left (by omega)]
theorem ae.len {B g n cap:Nat} {w:World} {l:List Nat} (h:ae B w (.slice (some ⟨g,0,none⟩) n cap) l):n=l.length:=by
 rcases h.2 with ⟨e,_⟩ | ⟨g',cap',cur,e,_⟩
 ·cases e
 ·simp only [Value.slice.injEq] at e;exact e.2.1
theorem dI.open {w:World} {v:Value} {l:List Nat} (h:dI w v l) :
  ∃ (a:Option Addr) (cap:Nat),v=.slice a l.length cap/\l.length<=cap/\cap<=9223372036854775807 /\
   (l≠[]->∃ b off,a=some ⟨b,off,none⟩/\b<w.heap.size/\∀ (j:Nat) x,l[j]?=some x->w.cell? ⟨b,off+j,none⟩=some (.int .u64 x)):=by
 obtain ⟨a,cap,hv,h1,h2,h3,h4⟩:=aI.open h;refine ⟨a,cap,hv,h1,h2,fun hx=>?_⟩;obtain ⟨b,off,ha,hb,hc⟩:=h4 (by omega) hx;refine ⟨b,off,ha,hb,fun j x hj=>?_⟩;obtain ⟨u,_,hr,hcell⟩:=hc j x hj;have:=hcell 0 (by omega);rw [hr] at this;simpa [pcV] using this
theorem ae.made {B n:Nat} {w:World} {v:Value} (h:w.ownsRow B 204 1 v n (madeCells #[.int .u64 0] n).toList):ae B w v (List.replicate n 0):=by
 unfold ae;rw [List.length_replicate];have e:(madeCells #[Value.int .u64 0] n).toList=(List.replicate n 0).map pcV:=(toList_madeCells_one _ _).trans (by simp [pcV])
 rwa [e] at h
theorem ae.build {B:Nat} {w:World} {v:Value} {l:List Nat} (h:ae B w v l):aZ w B 204 1 v pcR l:=by
 refine ⟨l.map fun x=>[pcV x],by simp,by simp,?_,?_⟩
 ·rw [eI];exact h
 ·intro j u x hu hx w' _;simp only [oE,hx,Option.map_some,Option.some.injEq] at hu;exact hu.symm
theorem aZ.ownP {B:Nat} {w:World} {v:Value} {l:List Nat} (h:aZ w B 204 1 v pcR l):ae B w v l:=by
 obtain ⟨us,h1,h2,h3,h4⟩:=h;have:us=l.map fun x=>[pcV x]:=by
  apply List.ext_getElem?;intro i;rw [oE];by_cases hi:i<l.length
  ·have hi2:i<us.length:=by omega
   have:=(h4 i us[i] l[i] (by simp [hi2]) (by simp [hi])).now;simp only [pcR] at this;simp [hi,hi2,this]
  ·rw [oK (by omega),oK (by omega)];rfl
 rw [this,eI] at h3;exact h3
theorem kf (B:Nat) (l:List Nat) (v:Value) (w:World) (h:ae B w v l) (hp:aS l) :
  Calls prog 171 #[v] w fun e w'=>∃ v' l',e=.returned v'/\Hid (ae B w' v' l'/\ai l'/\lv l'=lv l/\l'.length<=l.length)/\∃ k,w'=w.drewN k:=by
 obtain ⟨a,cap,rfl,hl,hc,hg⟩:=h.form;have HW:=n8 h;have HP:=n8 hp;have HG:=n8 hg;clear h hp hg
 go_enter func171,ntmps171
 go_wp2_with fail
 go_loopw [0] (fun t wr=>∃ m:Nat,m<=l.length/\t=.slice a m cap/\Hid (lv (l.take m)=lv l)/\∃ k,wr=w.drewN k) (fun t _=>match t with | .slice _ m _=>m | _=>0)
 case atStart=>exact ⟨l.length,oJ _,rfl,by unfold Hid;rw [List.take_length],0,rfl⟩
 case round =>
  obtain ⟨m,hm,rfl,HV,k,rfl⟩:=hrel;by_cases h0:m=0
  ·subst h0;have HF:Hid (ae B w (.slice a 0 cap) []/\ai []/\lv []=lv l/\([]:List Nat).length<=l.length):=by
    refine ⟨?_,ai.nil,HV,Nat.zero_le _⟩;by_cases hn:l=[]
    ·subst hn;exact HW
    ·obtain ⟨g,rfl,-,-⟩:=HG hn;exact HW.take 0 (Nat.zero_le _)
   go_wp2_with fail;go_ret;exact ⟨_,[],rfl,HF,k,rfl⟩
  ·have hne:l≠[]:=by rintro rfl;simp at hm;omega
   obtain ⟨g,rfl,hg1,sS⟩:=HG hne;obtain ⟨x,hx⟩:∃ x,l[m-1]?=some x:=⟨_,n9 (by omega)⟩;obtain ⟨hcell,-⟩:=HW.get hx;have wJ:(0:Int)<=(m:Int)-1:=by omega
   have sR:((m:Int)-1).toNat=m-1:=by omega
   have hi2:1<=m:=by omega
   by_cases pE:x=0
   ·subst pE;have yp:Hid (lv (l.take (m-1))=lv l):=by
     unfold Hid;have:=jT hx;rw [show m-1+1=m by omega,Nat.mul_zero,Nat.add_zero,HV.out] at this;exact this.symm
    clear hx h0 hne;go_wp2_with fail;go_roundw
    case rel=>exact ⟨m-1,by omega,by first | rfl | (simp;omega),yp,k,rfl⟩
    case measure=>simp;omega
   ·have HF:Hid (ae B w (.slice (some ⟨g,0,none⟩) m cap) (l.take m)/\ai (l.take m)/\lv (l.take m)=lv l/\(l.take m).length<=l.length):=by
     refine ⟨HW.take m hm,⟨HP.take m,?_⟩,HV,by rw [oF];omega⟩;intro y hy;rw [oF,Nat.min_eq_left hm,List.getElem?_take,if_pos (by omega),hx] at hy;cases hy;exact pE
    have hxb:((x:Int) == 0)=false:=by rw [beq_eq_false_iff_ne];omega
    clear hx h0 hne;go_wp2_with fail;go_ret;exact ⟨_,_,rfl,HF,k,rfl⟩
theorem kt (s:ByteArray) (j:Nat) (h:j<s.size):s.data.toList[j]?=some s[j]:=by
 have:j<s.data.toList.length:=by rw [<- Lib.size_eq];exact h
 rw [n9 this];rfl
theorem g4_ (s:ByteArray) (w:World):∃ (cap:Nat) (W1:World),
  (convert 53 241 (.string s)).run prog w=.ok (.slice (some ⟨w.heap.size,0,none⟩) s.size cap) W1/\aC w W1 /\
   ∀ (j:Nat) c,s.data.toList[j]?=some c->W1.cell? ⟨w.heap.size,j,none⟩=some (.int .u8 c.toNat):=by
 refine ⟨_,_,Lib.run_convert_string_bytes (P:=prog) w 53 241 5 s (u:=.string) underlying53 underlying241 underlying5,⟨rfl,rfl,rfl,by rw [Lib.bytesWorld_size];omega,fun j hj=>Lib.bytesWorld_at_old w _ s j hj⟩,fun j c hc=>?_⟩;have hj:j<s.size:=by rw [Lib.size_eq];exact (n_.1 hc).1
 rw [Lib.bytesWorld_cell w _ s j hj];simp [List.getD,hc]
theorem jm {w w':World} (h:w.grownBy w' none):aC w w':=⟨h.os,h.tape,h.output,h.size,fun k hk=>h.block k hk (by simp)⟩
theorem Z59 (s:ByteArray) (w:World) (hd:s.data.toList.all cI=true) (hs:s.size<=40000000000) :
  Calls prog 169 #[.string s] w fun e w'=>∃ v l,e=.returned v/\Hid (ae w.heap.size w' v l/\ai l/\lv l=ak 0 s.data.toList/\l.length<=s.size)/\aC w w':=by
 obtain ⟨i0,hi,pH,hz1,hz2⟩:=info_parts jn;have HI:=n8 hi;have HZ0:=n8 pH;have HZ1:=n8 hz1;have HZ2:=n8 hz2;have HD:=n8 hd;clear hi pH hz1 hz2 hd;obtain ⟨c,hc⟩:∃ c:Nat,c=s.size / 9+1:=⟨_,rfl⟩;have tG:c<=10000000000:=by omega
 have pd:((s.size:Int) / 9+1)=(c:Int):=by omega
 have hl:s.data.toList.length=s.size:=(Lib.size_eq s).symm;have HL:=n8 hl;clear hl hc
 go_enter func169,ntmps169
 go_wp2_with (at_make;refine wpList_make_own _ rfl _ _ 209 rfl w.heap.size 204 i0 (.int .u64 0) 1 underlying209 HI HZ0 HZ1 _ _ _ c rfl rfl rfl ?c1 ?c2 ?c3 ?_)
 case c1=>rw [HZ2.out];omega
 case c2=>unfold maxLen;omega
 case c3=>exact oJ _
 intro w1 hown oe;have HO:Hid (ae w.heap.size w1 (.slice (some ⟨w.heap.size,0,none⟩) 0 c) []):=hown;have hE1:=jm oe;clear hown oe;go_wp2_with fail;have tM:Hid (aZ w1 w.heap.size 204 1 (.slice (some ⟨w.heap.size,0,none⟩) 0 c) pcR []):=ae.build HO;have HS0:Hid (aS []/\([]:List Nat).length=0/\lv []=ak 0 (s.data.toList.drop (s.size-9*0))):=by
  refine ⟨aS.nil,rfl,?_⟩;rw [Nat.mul_zero,Nat.sub_zero,List.drop_eq_nil_of_le (by rw [HL.out];exact oJ _)];rfl
 clear HO tG pd
 go_loopw [3,4] (fun out i wr=>∃ (k:Nat) (e:Int) (l:List Nat),i=.int .i64 e/\e<=(s.size:Int)/\-9<e/\Hid (e=s.size-9*k)/\aC w wr/\Hid (aZ wr w.heap.size 204 1 out pcR l)/\Hid (aS l/\l.length=k/\lv l=ak 0 (s.data.toList.drop (s.size-9*k)))) (fun _ i _=>(intOf i).toNat)
 case atStart=>exact ⟨0,_,[],rfl,by omega,by omega,by unfold Hid;omega,hE1,tM,HS0⟩
 case round =>
  obtain ⟨k,e,l,rfl,GH,Ee,HE,pP,HB,HS⟩:=hrel;obtain ⟨wo,rfl⟩:∃ wo:World,wo=wr:=⟨_,rfl⟩;clear tM HS0;by_cases h0:0<e
  ·obtain ⟨m,rfl⟩:∃ m:Nat,e=m:=⟨e.toNat,by omega⟩;have HM:Hid (m=s.size-9*k):=by have:=HE.out;unfold Hid;omega
   have Eu:Hid (s.size-m=9*k):=by have:=HE.out;unfold Hid;omega
   have HFX:Hid (∀ f:Nat,f<=m->m<=f+9->(0<f->f+9=m)->m<=s.size->(s.extract f m).data.toList=(s.data.toList.take m).drop f/\(s.extract f m).size=m-f):=by
    intro f h1 h2 h3 h4;have e:(s.extract f m).data.toList=(s.data.toList.take m).drop f:=by rw [Lib.extract_data,List.drop_take]
    refine ⟨e,?_⟩;rw [Lib.size_eq,e,List.length_drop,oF,HL.out];omega
   obtain ⟨f,hf⟩:∃ f:Nat,(m<=9/\f=0)\/(9<m/\(m:Int)-9=(f:Int)):=by
    by_cases h9:m<=9
    ·exact ⟨0,.inl ⟨h9,rfl⟩⟩
    ·exact ⟨m-9,.inr ⟨by omega,by omega⟩⟩
   have Cr:m<=s.size:=by omega
   have hfm:f<=m:=by omega
   have GF:m<=f+9:=by omega
   have HX:=n8 (HFX f hfm GF (by omega) Cr);obtain ⟨cap,W1,hcv,hE1,hcell⟩:=g4_ (s.extract f m) wo;obtain ⟨b,hb⟩:∃ b,b=s.extract f m:=⟨_,rfl⟩;rw [<- hb] at hcell HX;have yG:b.size=m-f:=HX.2;rw [<- hb,yG] at hcv;rw [hb] at hcv;have HC:=n8 hcell;have HE1:=n8 (pP.trans hE1);have HB1:=n8 (aZ.ext HB hE1);obtain ⟨mf,AK⟩:∃ mf,mf=m-f:=⟨_,rfl⟩;rw [<- AK] at hcv yG;have LU:mf<=9:=by omega
   have HBS:=n8 yG;have HMF:=n8 AK;clear hcell hE1 hb yG HFX AK;rcases hf with ⟨h9,rfl⟩ | ⟨h9,hf⟩
   all_goals
    go_wp2_with fail;clear hcv
    go_loopw [27,5] (fun j n wr=>∃ (i v:Nat),i<=mf/\j=.int .i64 i/\n=.int .u64 v/\v<=1000000000/\Hid (v=ak 0 (b.data.toList.take i))/\Hid (aC W1 wr)) (fun j _ _=>mf-(intOf j).toNat)
    case atStart=>exact ⟨0,0,by omega,rfl,rfl,by omega,rfl,aC.refl _⟩
    case round =>
     obtain ⟨i,v,hi,rfl,rfl,hv,HV,yw⟩:=hrel;obtain ⟨wi,rfl⟩:∃ wi:World,wi=wr:=⟨_,rfl⟩;have pS:Hid (b.data.toList.all cI=true):=by unfold Hid;rw [HX.out.1];exact ml HD _ _
     by_cases hlt:i<mf
     ·obtain ⟨ch,vj⟩:∃ ch,b.data.toList[i]?=some ch:=⟨_,kt b i (by rw [HBS.out];exact hlt)⟩;have g1:=yw.cell (HC i ch vj);have AV:48<=ch.toNat/\ch.toNat<=57:=of_decide_eq_true (List.all_eq_true.1 pS ch (oD vj));obtain ⟨z,hz⟩:∃ z:Nat,ch.toNat=z+48:=⟨ch.toNat-48,by omega⟩;have Kp:z<=9:=by omega
      have yp:Hid (10*v+z=ak 0 (b.data.toList.take (i+1))):=by
       unfold Hid;rw [oG,vj,jk,<- HV.out];show _=ak v [ch];rw [fB,jN,hz];omega
      have pt:10*v+z<=1000000000:=by
       have:=L4_ (ml (e:=i+1) (f:=0) pS) (by rw [List.drop_zero,oF];omega);rw [List.drop_zero,<- yp.out] at this;omega
      rw [hz] at g1;clear vj AV hz;go_wp2_with fail;go_roundw
      case rel=>exact ⟨i+1,10*v+z,by omega,by go_num,by go_num,pt,yp,yw⟩
      case measure=>simp [intOf];omega
     ·obtain rfl:mf=i:=by omega
      have HBi:=n8 (aZ.ext HB1 yw);have HEi2:=n8 (aC.trans HE1 yw);have qC:w.heap.size<=wi.heap.size:=HEi2.size;have HLL:Hid (l.length<100000000000):=by have:=HS.2.1;unfold Hid;have:=HE.out;omega
      have xp:Hid (aS (l++[v])/\(l++[v]).length=k+1/\lv (l++[v])=ak 0 (s.data.toList.drop (s.size-9*(k+1)))):=by
       have re:b.data.toList.length=mf:=by rw [<- Lib.size_eq,HBS.out]
       have EH:v=ak 0 b.data.toList:=by rw [HV.out,List.take_of_length_le (by omega)]
       have wD:v<1000000000:=by rw [EH];exact L4_ pS (by omega)
       refine ⟨HS.1.append (aS.cons wD aS.nil),by rw [oU,HS.out.2.1];rfl,?_⟩;rw [iv,HS.out.2.2,HS.out.2.1,eX,dL,Nat.mul_zero,Nat.add_zero,EH,HX.out.1,<- HM.out];have:=t2_ (l:=s.data.toList) (e:=m) (k:=k) (by rw [HL.out];exact Cr) (by rw [HL.out];exact Eu) _ hfm rfl;rw [this];congr 2;have:=HE.out;omega
      clear hlt;go_wp2_with (at_builtin;go_must (refine Z0_ _ rfl _ _ 209 rfl w.heap.size 204 (.int .u64 0) 1 8 underlying209 jn rfl (by decide) u3 pcR l v #[.int .u64 v] 204 rfl HBi rfl rfl ?_ (fun _ _=>rfl) HLL (by decide) qC ?_))
      all_goals first | (simp [Value.oneCell'];done) | skip
      intro v' w5 o8 pc hb5 rB _;have HB5:=n8 o8;have HX5:=n8 (Below.trans HEi2 hb5);clear o8 pc hb5;go_wp2_with fail;go_roundw
      case rel=>exact ⟨k+1,_,l++[v],rfl,by omega,by omega,by have:=HE.out;unfold Hid;omega,HX5,HB5,xp⟩
      case measure=>simp [intOf];omega
  ·have HF:Hid (lv l=ak 0 s.data.toList):=by
    have:=HE.out;unfold Hid;rw [HS.out.2.2,show s.size-9*k=0 by omega,List.drop_zero]
   have HW:Hid (ae w.heap.size wo u3 l):=HB.ownP;have HT:=n8 (kf w.heap.size l u3 wo HW HS.1);go_wp2_with fail;refine HT.mono ?_;rintro e' w' ⟨v',l',rfl,hr,kk,rfl⟩;have HR:=n8 hr;clear hr HT;go_wp2_with fail;go_ret;refine ⟨v',l',rfl,⟨HR.out.out.1,HR.out.out.2.1,HR.out.out.2.2.1.trans HF,?_⟩,aC.draws pP _⟩;have:=HR.out.out.2.2.2;have:=HS.2.1;have:=HE.out;omega
def mr (c:UInt8):Value:=.int .u8 c.toNat
def eR (B:Nat) (w:World) (v:Value) (l:List UInt8):Prop:=w.ownsRow B 5 1 v l.length (l.map mr)
theorem eR.len {B g n cap:Nat} {w:World} {l:List UInt8} (h:eR B w (.slice (some ⟨g,0,none⟩) n cap) l):n=l.length:=by
 rcases h.2 with ⟨e,_⟩ | ⟨g',cap',cur,e,_⟩
 ·cases e
 ·simp only [Value.slice.injEq] at e;exact e.2.1
theorem eR.get {B g n cap:Nat} {w:World} {l:List UInt8} (h:eR B w (.slice (some ⟨g,0,none⟩) n cap) l) {k:Nat} {x:UInt8} (hx:l[k]?=some x) :
  w.cell? ⟨g,k,none⟩=some (.int .u8 x.toNat)/\w.frozen? ⟨g,k,none⟩=false:=by
 have hk:k<l.length:=(n_.1 hx).1;have hn:=h.len;subst hn;exact ⟨(World.ownsRow.cellAt h k (by simpa using hk)).trans (by simp [hx,mr]),World.ownsRow.frozenAt h k⟩
theorem eR.set {B g n cap:Nat} {w:World} {l:List UInt8} (h:eR B w (.slice (some ⟨g,0,none⟩) n cap) l) (k:Nat) (x:UInt8) :
  eR B (w.setCell ⟨g,k,none⟩ (.int .u8 x.toNat)) (.slice (some ⟨g,0,none⟩) n cap) (l.set k x):=by
 have hn:=h.len;subst hn;unfold eR at h |-;rw [List.map_set,List.length_set];exact (World.ownsRow.stored h k _).1
theorem eR.form {B:Nat} {w:World} {v:Value} {l:List UInt8} (h:eR B w v l):∃ a cap,v=.slice a l.length cap/\l.length<=cap/\cap<=9223372036854775807/\(l≠[]->∃ g,a=some ⟨g,0,none⟩/\B<=g/\g<w.heap.size):=by
 rcases h.2 with ⟨rfl,hn⟩ | ⟨g,cap,cur,rfl,hb,hg,h1,h2,h3,h4⟩
 ·exact ⟨none,0,by rw [hn],by omega,by omega,fun hne=>absurd (List.length_eq_zero_iff.1 hn) hne⟩
 ·exact ⟨_,cap,rfl,h1,h2,fun _=>⟨g,rfl,hb,(Array.getElem?_eq_some_iff.1 hg).1⟩⟩
theorem eR.draws {B:Nat} {w:World} {v:Value} {l:List UInt8} (h:eR B w v l) (k:Nat):eR B (w.drewN k) v l:=fi h (aC.drewN w k)
def kA (_:World) (u:List Value) (x:UInt8):Prop:=u=[mr x]
theorem aZ.ownB {B:Nat} {w:World} {v:Value} {l:List UInt8} (h:aZ w B 5 1 v kA l):eR B w v l:=by
 obtain ⟨us,h1,h2,h3,h4⟩:=h;have:us=l.map fun x=>[mr x]:=by
  apply List.ext_getElem?;intro i;rw [oE];by_cases hi:i<l.length
  ·have hi2:i<us.length:=by omega
   have:=(h4 i us[i] l[i] (by simp [hi2]) (by simp [hi])).now;simp only [kA] at this;simp [hi,hi2,this]
  ·rw [oK (by omega),oK (by omega)];rfl
 rw [this,eI] at h3;exact h3
def jh (bs l:List UInt8) (i:Nat):Prop:=l.length=bs.length/\∀ k,k<bs.length->l[k]?=if k<i\/bs.length<=k+i then bs[bs.length-1-k]? else bs[k]?
theorem jh.zero (bs:List UInt8):jh bs bs 0:=⟨rfl,fun k hk=>by rw [if_neg (by omega)]⟩
theorem jh.done {bs l:List UInt8} {i:Nat} (h:jh bs l i) (hi:bs.length<=2*i+1):l=bs.reverse:=by
 apply List.ext_getElem?;intro k;by_cases hk:k<bs.length
 ·rw [h.2 k hk,List.getElem?_reverse hk]
  split
  ·rfl
  ·have:bs.length-1-k=k:=by omega
   rw [this]
 ·rw [oK (by have:=h.1;omega),oK (by rw [List.length_reverse];omega)]
theorem jh.step {bs l:List UInt8} {i j:Nat} {x y:UInt8} (h:jh bs l i) (hj:i+j+1=bs.length) (qK:i<j) (hx:l[i]?=some x) (hy:l[j]?=some y):jh bs ((l.set i y).set j x) (i+1):=by
 have hl:=h.1;refine ⟨by simp [hl],fun k hk=>?_⟩;have h1:=h.2 i (by omega);have h2:=h.2 j (by omega);rw [if_neg (by omega)] at h1 h2;rw [oV,oV];by_cases e1:j=k
 ·subst e1;rw [if_pos rfl,if_pos (by simp [hl];omega),if_pos (by omega),show bs.length-1-j=i by omega,<- h1,hx]
 ·rw [if_neg e1];by_cases e2:i=k
  ·subst e2;rw [if_pos rfl,if_pos (by omega),if_pos (by omega),show bs.length-1-i=j by omega,<- h2,hy]
  ·rw [if_neg e2,h.2 k hk];by_cases c:k<i\/bs.length<=k+i
   ·rw [if_pos c,if_pos (by omega)]
   ·rw [if_neg c,if_neg (by omega)]
theorem i0_ (B:Nat) (bs:List UInt8) (v:Value) (w:World) (h:eR B w v bs) :
  Calls prog 205 #[v] w fun e w'=>e=.returned (.tuple #[])/\eR B w' v bs.reverse/\w.grownBy w' v.ownBlock:=by
 obtain ⟨a,cap,rfl,hl,hc,hg⟩:=h.form;have HW:=n8 h;have HG:=n8 hg;clear h hg
 go_enter func205,ntmps205
 go_wp2_with fail
 go_loopw [2,3] (fun i j wr=>∃ (x:Nat) (y:Int) (l:List UInt8),i=.int .i64 x/\j=.int .i64 y/\(x:Int)<=bs.length/\y<bs.length/\-2<y/\Hid ((x:Int)+y+1=bs.length)/\Hid (eR B wr (.slice a bs.length cap) l)/\Hid (jh bs l x)/\Hid (w.grownBy wr (Value.slice a bs.length cap).ownBlock)) (fun i j _=>(intOf j-intOf i).toNat)
 case atStart=>exact ⟨0,_,bs,rfl,rfl,by omega,by omega,by omega,by unfold Hid;omega,HW,jh.zero bs,World.grownBy.refl _ _⟩
 case round =>
  obtain ⟨x,y,l,rfl,rfl,hx,hy,qg,vp,HO,HS,HGR⟩:=hrel;obtain ⟨wo,rfl⟩:∃ wo:World,wo=wr:=⟨_,rfl⟩;by_cases hlt:(x:Int)<y
  ·obtain ⟨j,rfl⟩:∃ j:Nat,y=j:=⟨y.toNat,by omega⟩;have hxy:=vp.out;obtain ⟨g,rfl,hg1,sS⟩:=HG (by rintro rfl;simp at hy;omega);have hll:=HS.1;obtain ⟨cx,pG⟩:∃ c,l[x]?=some c:=⟨_,n9 (by omega)⟩;obtain ⟨cy,tb⟩:∃ c,l[j]?=some c:=⟨_,n9 (by omega)⟩;obtain ⟨c1,f1⟩:=HO.get pG;obtain ⟨c2,f2⟩:=HO.get tb;have HS2:=n8 (HS.step (by omega) (by omega) pG tb);have HO2:=n8 ((HO.set x cy).set j cx);have HN:=n8 (fun k=>eR.draws (HO2) k);have Ic:x<bs.length:=by omega
   have Cz:j<bs.length:=by omega
   have hne:¬ x=j:=by omega
   have xB:¬ j=x:=by omega
   clear hxy hll pG tb HG;go_wp2_with fail
   go_region
   all_goals
    go_wp2_with fail;go_roundw
    case rel =>
     refine ⟨x+1,_,_,by go_num,rfl,by omega,by omega,by omega,by have:=vp.out;unfold Hid;omega,fi HO2 (aC.drew _),HS2,?_⟩;exact iI (iI (iI HGR (eJ _ g _ _)) (eJ _ g _ _)) ((aC.drew _).grown _)
    case measure=>simp [intOf];omega
  ·have HF:=n8 (HS.done (by have:=vp.out;omega));rw [HF.out] at HO;go_wp2_with fail;refine bodyPost_end (results_none rfl _ _ _) rfl ⟨rfl,HO,HGR⟩
structure jH (l:List Nat) (i:Nat) (bs:List UInt8):Prop where
 dig:bs.all cI=true
 len:i<l.length->bs.length=9*i
 le:bs.length<=9*i
 val:dv bs=lv (l.take i)
 last:i=l.length->∃ c,bs.getLast?=some c/\c≠48
structure j6 (l:List Nat) (i k n:Nat) (bs:List UInt8):Prop where
 dig:bs.all cI=true
 len:bs.length=9*i+k
 val:dv bs+10^bs.length*n=lv (l.take (i+1))
 lt:n<10^(9-k)
 last:i+1=l.length->n=0->∃ c,bs.getLast?=some c/\c≠48
theorem jH.zero (l:List Nat) (h:l≠[]):jH l 0 []:=⟨rfl,fun _=>rfl,by simp,rfl,fun e=>absurd (List.length_eq_zero_iff.1 e.symm) h⟩
theorem jH.enter {l:List Nat} {i x:Nat} {bs:List UInt8} (h:jH l i bs) (hc:ai l) (hx:l[i]?=some x):j6 l i 0 x bs:=by
 have hi:=(n_.1 hx).1;refine ⟨h.dig,h.len hi,?_,hc.1.get hx,fun he h0=>?_⟩
 ·rw [h.val,h.len hi,jT hx,Z2j]
 ·exact absurd h0 (hc.2 x (by rw [<- he,Nat.add_sub_cancel];exact hx))
theorem j6.step {l:List Nat} {i k n:Nat} {bs:List UInt8} {c:UInt8} (h:j6 l i k n bs) (hk:k<9) (hn:i+1<l.length\/0<n) (hc:c.toNat=48+n%10):j6 l i (k+1) (n / 10) (bs++[c]):=by
 refine ⟨?_,by rw [oU,h.len];rfl,Z0Q hc h.val,?_,fun he h0=>⟨c,by simp,?_⟩⟩
 ·rw [List.all_append,h.dig,Bool.true_and,List.all_cons,List.all_nil,Bool.and_true];exact oS (by omega)
 ·have:=h.lt;rw [show 9-k=(9-(k+1))+1 by omega,Nat.pow_succ] at this;omega
 ·rintro rfl;rw [show (48:UInt8).toNat=48 from rfl] at hc;omega
theorem j6.leave {l:List Nat} {i k n:Nat} {bs:List UInt8} (h:j6 l i k n bs) (hk:k<=9) (hi:i<l.length) (hn:k=9\/(¬ i+1<l.length/\n=0)):jH l (i+1) bs:=by
 have h0:n=0:=by
  rcases hn with rfl | ⟨-,h⟩
  ·have:=h.lt;rw [Nat.sub_self,Nat.pow_zero] at this;omega
  ·exact h
 have hv:=h.val;rw [h0,Nat.mul_zero,Nat.add_zero] at hv;exact ⟨h.dig,fun hlt=>by have:=h.len;omega,by have:=h.len;omega,hv,fun he=>h.last he h0⟩
theorem jH.done {l:List Nat} {bs:List UInt8} (h:jH l l.length bs):bs.reverse=(aE (lv l)).data.toList:=by
 obtain ⟨c,hc,GR⟩:=h.last rfl;have hne:bs≠[]:=by rintro rfl;simp at hc
 have h1:=C0_ (l:=bs.reverse) (by rw [List.all_reverse];exact h.dig) (by simpa using hne) (.inl (by rw [List.head?_reverse,hc];simpa using GR));rw [h1,t6_,h.val,List.take_length,ep]
theorem mS (l:List Nat) (v:Value) (w:World) (h:dI w v l) (hc:ai l) (hlen:l.length<=10000000000) :
  oW 172 #[v] w (.string (aE (lv l))):=by
 obtain ⟨a,cap,rfl,hl,qb,hcell⟩:=h.open;have HX:=n8 hcell;have HC:=n8 hc;clear h hcell hc;by_cases hn:l=[]
 ·subst hn;have HF:Hid (aE (lv [])=⟨#[48]⟩):=by unfold Hid aE;rw [dL,Lib.decDigits_one (by omega)];rfl
  rw [HF.out]
  go_enter func172,ntmps172
  go_wp2_with fail;go_ret;exact ⟨rfl,aC.refl _⟩
 ·obtain ⟨b,off,rfl,hb,hcell⟩:=HX hn;have HCELL:=n8 hcell;have pK:0<l.length:=List.length_pos_iff.2 hn;have Ba:((l.length:Int) == 0)=false:=by rw [beq_eq_false_iff_ne];omega
  have HN:=n8 hn;obtain ⟨c9,L2⟩:∃ c9:Nat,(9*(l.length:Int))=(c9:Int):=⟨9*l.length,by omega⟩;have GQ:c9<=90000000000:=by omega
  obtain ⟨i0,hi,pH,hz1,hz2⟩:=info_parts Z4S;have HI:=n8 hi;have HZ0:=n8 pH;have HZ1:=n8 hz1;have HZ2:=n8 hz2;clear hi pH hz1 hz2 HX hcell hn
  go_enter func172,ntmps172
  go_wp2_with (at_make;refine wpList_make_own _ rfl _ _ 241 rfl w.heap.size 5 i0 (.int .u8 0) 1 underlying241 HI HZ0 HZ1 _ _ _ c9 rfl rfl rfl ?c1 ?c2 ?c3 ?_)
  case c1=>rw [HZ2.out];omega
  case c2=>unfold maxLen;omega
  case c3=>exact oJ _
  intro w1 hown oe;have tM:Hid (aZ w1 w.heap.size 5 1 (.slice (some ⟨w.heap.size,0,none⟩) 0 c9) kA []):=⟨[],rfl,by simp,by simpa using hown,by simp⟩;have hE1:=jm oe;have HS0:=n8 (jH.zero l HN);clear hown oe L2 GQ;go_wp2_with fail
  go_loopw [3,16] (fun out t wr=>∃ (i:Nat) (bs:List UInt8),i<=l.length/\t=.int .i64 i/\aC w wr/\Hid (aZ wr w.heap.size 5 1 out kA bs)/\Hid (jH l i bs)) (fun _ t _=>l.length-(intOf t).toNat)
  case atStart=>exact ⟨0,[],by omega,rfl,hE1,tM,HS0⟩
  case round =>
   obtain ⟨i,bs,hi,rfl,pP,HB,HS⟩:=hrel;obtain ⟨wo,rfl⟩:∃ wo:World,wo=wr:=⟨_,rfl⟩;clear tM HS0;by_cases hlt:i<l.length
   ·obtain ⟨x,hx⟩:∃ x,l[i]?=some x:=⟨_,n9 hlt⟩;have g1:=pP.cell (HCELL i x hx);have hxb:=HC.1.get hx;have HK0:=n8 (HS.enter HC hx);clear hx;go_wp2_with fail
    go_loopw [3,6,5] (fun out t n wr=>∃ (k m:Nat) (bs:List UInt8),k<=9/\t=.int .i64 k/\n=.int .u64 m/\m<1000000000/\aC w wr/\Hid (aZ wr w.heap.size 5 1 out kA bs)/\Hid (j6 l i k m bs)) (fun _ t _ _=>9-(intOf t).toNat)
    case atStart=>exact ⟨0,x,bs,by omega,rfl,rfl,hxb,pP,HB,HK0⟩
    case round =>
     obtain ⟨k,m,bs',hk,rfl,rfl,hm,tK,HBi,tz⟩:=hrel;obtain ⟨wi,rfl⟩:∃ wi:World,wi=wr:=⟨_,rfl⟩;clear g1;by_cases tZ:k<9/\(i+1<l.length\/0<m)
     ·obtain ⟨hk9,tZ⟩:=tZ;obtain ⟨d,hd⟩:∃ d,m%10=d:=⟨_,rfl⟩;obtain ⟨q,hq⟩:∃ q,m / 10=q:=⟨_,rfl⟩;have sH:(m:Int)%10=(d:Int):=by omega
      have ES:(m:Int) / 10=(q:Int):=by omega
      have hd9:d<=9:=by omega
      have FQ:q<1000000000:=by omega
      obtain ⟨ch,vj⟩:∃ ch:UInt8,ch.toNat=48+d:=⟨UInt8.ofNat (48+d),by rw [UInt8.toNat_ofNat'];omega⟩;have HK2:Hid (j6 l i (k+1) q (bs'++[ch])):=by
       unfold Hid;rw [<- hq];exact tz.step hk9 tZ (by rw [vj,hd])
      have hsz:w.heap.size<=wi.heap.size:=tK.size;have HLL:Hid (bs'.length<100000000000):=by have:=tz.len;unfold Hid;omega
      have HRR:Hid (∀ x:World,kA x [Value.int .u8 (48+(d:Int))] ch):=fun _=>by unfold kA mr;rw [vj];rfl
      clear hd hq vj;have F5:i+1<l.length\/(¬ i+1<l.length/\0<m):=by omega
      clear tZ;rcases F5 with x9 | ⟨x9,Nk⟩
      all_goals
       go_wp2_with (at_builtin;go_must (refine Z0_ _ rfl _ _ 241 rfl w.heap.size 5 (.int .u8 0) 1 1 underlying241 Z4S rfl (by decide) u3 kA bs' ch #[.int .u8 (48+d)] 5 rfl HBi rfl rfl ?_ (fun x _=>HRR x) HLL (by decide) hsz ?_))
       all_goals first | (simp [Value.oneCell'];done) | skip
       intro v' w5 o8 pc hb5 rB _;have HB5:=n8 o8;have HX5:=n8 (Below.trans tK hb5);clear o8 pc hb5;go_wp2_with fail;go_roundw
       case rel=>exact ⟨k+1,q,_,by omega,by go_num,rfl,FQ,HX5,HB5,HK2⟩
       case measure=>simp [intOf];omega
     ·have EY:k=9\/(k<9/\¬ i+1<l.length/\m=0):=by omega
      have HS2:Hid (jH l (i+1) bs'):=tz.leave hk hlt (by omega);clear tZ;rcases EY with rfl | ⟨hk9,x9,rfl⟩
      all_goals
       go_wp2_with fail;go_roundw
       case rel=>exact ⟨i+1,bs',by omega,by go_num,tK,HBi,HS2⟩
       case measure=>simp [intOf];omega
   ·obtain rfl:l.length=i:=by omega
    have hsh:=HB.out;have HDONE:=n8 (HS.done);obtain ⟨c,hc,-⟩:=HS.last rfl;have re:0<bs.length:=by cases bs with | nil=>simp at hc | cons _ _=>simp
    have HLE:Hid (bs.length<=90000000000):=by have:=HS.le;unfold Hid;omega
    have hown:=HB.ownB;obtain ⟨g,capb,rfl,hg1,sS,qi,sn⟩:=iz hown re;have HREV:=n8 (i0_ w.heap.size bs _ wo hown);unfold maxLen at sn;have hcv:∀ w',eR w.heap.size w' (.slice (some ⟨g,0,none⟩) bs.length capb) bs.reverse->(convert 241 53 (.slice (some ⟨g,0,none⟩) bs.length capb)).run prog w'=.ok (.string (aE (lv l))) w':=by
     intro w' ho;have e:aE (lv l)=⟨bs.reverse.toArray⟩:=by
      have h1:=HDONE.out;generalize aE (lv l)=nb at *
      cases nb with | mk d=>simp only at h1;rw [h1]
     rw [e]
     have:=run_convert_bytes_back w' 241 53 5 ⟨g,0,none⟩ capb bs.reverse underlying241 underlying5 underlying53 (by
      intro j hj;have hx:=(ho.get (k:=j) (x:=bs.reverse[j]) (n9 hj)).1;rw [show (⟨g,0,none⟩:Addr).add j=⟨g,j,none⟩ by unfold Addr.add;split <;> simp_all]
      exact hx)
     rw [List.length_reverse] at this;exact this
    have HCV:=n8 hcv;clear hc hsh hown hcv re;go_wp2_with fail;refine HREV.mono ?_;rintro e w5 ⟨rfl,Cn,pc⟩;have hcv:=HCV _ Cn;have HX5:Hid (aC w w5):=Below.trans pP ⟨pc.os,pc.tape,pc.output,pc.size,fun k hk=>pc.block k (oH hk pP.size) (by simp only [Value.ownBlock];intro e;cases e;omega)⟩;clear Cn pc HREV HCV;go_wp2_with fail;go_ret;exact ⟨rfl,HX5⟩
theorem N3_ (p q:List Nat) (u v:Value) (w:World) (hu:dI w u p) (hv:dI w v q) (hp:ai p) (hq:ai q) (tU:p.length<=10000000000) (hlq:q.length<=10000000000) :
  oW 192 #[u,v] w (.int .i64 (bj (lv p) (lv q))):=by
 obtain ⟨a,ca,rfl,qV,sV,qX⟩:=hu.open;obtain ⟨b,cb,rfl,hlb,tG,hcv⟩:=hv.open;have HP:=n8 hp;have HQ:=n8 hq;have HU:=n8 qX;have HV:=n8 hcv;clear hu hv qX hcv hp hq;by_cases hl:p.length=q.length
 ·have ya:((p.length:Int) != (q.length:Int))=false:=by simp [hl]
  have HL:=n8 hl;have FU:p.length<=q.length:=by omega
  have FT:q.length<=p.length:=by omega
  clear hl
  go_enter func192,ntmps192
  go_wp2_with fail
  go_loopw [5] (fun i wr=>∃ y:Int,i=.int .i64 y/\y<p.length/\-2<y/\Hid (∃ k:Nat,y+1=k/\k<=p.length/\p.drop k=q.drop k)/\aC w wr) (fun i _=>(intOf i+1).toNat)
  case atStart=>exact ⟨_,rfl,by omega,by omega,⟨p.length,by omega,oJ _,by rw [List.drop_length,HL.out,List.drop_length]⟩,aC.refl _⟩
  case round =>
   obtain ⟨y,rfl,rm,qg,HK,hE⟩:=hrel;obtain ⟨wo,rfl⟩:∃ wo:World,wo=wr:=⟨_,rfl⟩;by_cases h0:0<=y
   ·obtain ⟨k,rfl⟩:∃ k:Nat,y=k:=⟨y.toNat,by omega⟩;have AQ:k<p.length:=by omega
    have AP:k<q.length:=by omega
    obtain ⟨x,hx⟩:∃ x,p[k]?=some x:=⟨_,n9 AQ⟩;obtain ⟨z,hz⟩:∃ z,q[k]?=some z:=⟨_,n9 AP⟩;obtain ⟨ba,oa,rfl,-,qA⟩:=HU (by rintro rfl;simp at AQ);obtain ⟨bb,ob,rfl,-,rM⟩:=HV (by rintro rfl;simp at AP);have g1:=hE.cell (qA k x hx);have g2:=hE.cell (rM k z hz);have HD:Hid (p.drop (k+1)=q.drop (k+1)):=by
     obtain ⟨k',e,-,h⟩:=HK.out;have:k'=k+1:=by omega
     rw [this] at h;exact h
    have HX:=n8 hx;have HZ:=n8 hz;clear hx hz qA rM;rcases Nat.lt_trichotomy x z with tP | tP | tP
    ·have hb:decide (x<z)=true:=oS (by omega);have HR:=n8 (kx (e6_ HP.1 HQ.1 HX HZ HD tP));clear tP;go_wp2_with fail
     go_quiet (fail)
     go_wp2_with fail;go_ret;rw [HR.out];exact ⟨rfl,aC.draws hE _⟩
    ·subst tP;have hb:decide (x<x)=false:=oR (by omega);have HK2:Hid (∃ k':Nat,((k:Int)-1)+1=k'/\k'<=p.length/\p.drop k'=q.drop k'):=by
      refine ⟨k,by omega,by omega,?_⟩;show p.drop k=q.drop k;rw [List.drop_eq_getElem_cons AQ,List.drop_eq_getElem_cons AP,HD.out];congr 1;have h1:=(n_.1 HX).2;have h2:=(n_.1 HZ).2;rw [h1,h2]
     go_wp2_with fail
     go_quiet (fail)
     go_wp2_with fail
     go_quiet (fail)
     go_wp2_with fail;go_roundw
     case rel=>exact ⟨_,rfl,by omega,by omega,HK2,by first | exact aC.draws (aC.draws hE _) _ | exact aC.draws hE _⟩
     case measure=>simp [intOf]
    ·have hb:decide (x<z)=false:=oR (by omega);have hb2:decide (z<x)=true:=oS (by omega);have HR:=n8 (mv (e6_ HQ.1 HP.1 HZ HX HD.symm tP));clear tP;go_wp2_with fail
     go_quiet (fail)
     go_wp2_with fail
     go_quiet (fail)
     go_wp2_with fail;go_ret;rw [HR.out];exact ⟨rfl,by first | exact aC.draws (aC.draws hE _) _ | exact aC.draws hE _⟩
   ·have HR:Hid (bj (lv p) (lv q)=0):=by
     obtain ⟨k,e,-,h⟩:=HK.out;have:k=0:=by omega
     subst this;rw [List.drop_zero,List.drop_zero] at h;exact Z19 (by rw [h])
    go_wp2_with fail;go_ret;rw [HR.out];exact ⟨rfl,hE⟩
 ·have ya:((p.length:Int) != (q.length:Int))=true:=by simp;omega
  rcases Nat.lt_or_gt_of_ne hl with h | h
  ·have HR:=n8 (kx (ai.lt_of_length HP.1 HQ h));have HM:Hid (min 1 (max (-1) ((p.length:Int)-(q.length:Int)))=-1):=by unfold Hid;omega
   rw [HR.out];clear HR hl
   go_enter func192,ntmps192
   go_wp2_with fail;go_ret;exact ⟨rfl,aC.refl _⟩
  ·have HR:=n8 (mv (ai.lt_of_length HQ.1 HP h));have HM:Hid (min 1 (max (-1) ((p.length:Int)-(q.length:Int)))=1):=by unfold Hid;omega
   rw [HR.out];clear HR hl
   go_enter func192,ntmps192
   go_wp2_with fail;go_ret;exact ⟨rfl,aC.refl _⟩
structure j9 (p q:List Nat) (i:Nat) (L:List Nat):Prop where
 len:L.length=p.length+q.length
 pcs:aS L
 val:lv L=lv (p.take i)*lv q
 zero:∀ j,i+q.length<=j->j<L.length->L[j]?=some 0
structure j8 (p q:List Nat) (i x k c:Nat) (L:List Nat):Prop where
 len:L.length=p.length+q.length
 pcs:aS L
 lt:c<1000000000
 val:lv L+c*pB (i+k)=lv (p.take i)*lv q+x*(lv (q.take k)*pB i)
 zero:∀ j,i+q.length<=j->j<L.length->L[j]?=some 0
theorem j9.start (p q:List Nat):j9 p q 0 (List.replicate (p.length+q.length) 0) :=
 ⟨by simp,aS.zeros _,by rw [y3_,List.take_zero,dL,Nat.zero_mul],fun j _ h=>by rw [List.getElem?_replicate,if_pos (by simpa using h)]⟩
theorem j9.enter {p q L:List Nat} {i:Nat} (x:Nat) (h:j9 p q i L):j8 p q i x 0 0 L :=
 ⟨h.len,h.pcs,by omega,by rw [h.val,List.take_zero,dL];simp,h.zero⟩
theorem j8.step {p q L:List Nat} {i x k c a b y c':Nat} (h:j8 p q i x k c L) (hk:q[k]?=some b) (ha:L[i+k]?=some a) (hx:x<1000000000) (hc:c'=c+a+x*b) (hcl:c' / 1000000000<1000000000) (hy:y=c'%1000000000) :
  j8 p q i x (k+1) (c' / 1000000000) (L.set (i+k) y):=by
 have hkl:=(n_.1 hk).1;refine ⟨by rw [List.length_set];exact h.len,h.pcs.set _ _ (by omega),hcl,?_,fun j hj xM=>?_⟩
 ·have:=T0_ (P:=pB (i+k)) (P':=pB (i+k+1)) (c:=c) (x:=a) (y:=y) (ab:=x*b) (acc2:=x*(lv (q.take (k+1))*pB i)) (er _) h.val hc hy (nL y ha) (by
   rw [jT hk,lL];grind)
  exact this
 ·rw [oV,if_neg (by omega)];exact h.zero j hj (by simpa using xM)
theorem j8.leave {p q L:List Nat} {i x c:Nat} (h:j8 p q i x q.length c L) (hx:p[i]?=some x):j9 p q (i+1) (L.set (i+q.length) c)/\L[i+q.length]?=some 0:=by
 have hi:=(n_.1 hx).1;have h0:=h.zero (i+q.length) (oJ _) (by rw [h.len];omega);refine ⟨⟨by rw [List.length_set];exact h.len,h.pcs.set _ _ h.lt,?_,fun j hj xM=>?_⟩,h0⟩
 ·have h1:=nL c h0;have h2:=h.val;rw [List.take_length] at h2;rw [jT hx];have:(lv (p.take i)+pB i*x)*lv q=lv (p.take i)*lv q+x*(lv q*pB i):=by grind
  have:c*pB (i+q.length)=pB (i+q.length)*c:=Nat.mul_comm _ _;omega
 ·rw [oV,if_neg (by omega)];exact h.zero j (by omega) (by simpa using xM)
theorem q3_ {a b:Nat} (ha:a<1000000000) (hb:b<1000000000):a*b<=999999998000000001:=by
 have:a*b<=999999999*999999999:=Nat.mul_le_mul (by omega) (by omega);omega
theorem n2_ (p q:List Nat) (u v:Value) (w:World) (hu:dI w u p) (hv:dI w v q) (hp:aS p) (hq:aS q) (tU:p.length<=5000000000) (hlq:q.length<=5000000000) :
  Calls prog 174 #[u,v] w fun e w'=>∃ r l,e=.returned r/\Hid (ae w.heap.size w' r l/\ai l/\lv l=lv p*lv q/\l.length<=p.length+q.length)/\aC w w':=by
 obtain ⟨a,ca,rfl,qV,sV,qX⟩:=hu.open;obtain ⟨b,cb,rfl,hlb,tG,hcv⟩:=hv.open;have HP:=n8 hp;have HQ:=n8 hq;have HU:=n8 qX;have HV:=n8 hcv;obtain ⟨i0,hi,pH,hz1,hz2⟩:=info_parts jn;have HI:=n8 hi;have HZ0:=n8 pH;have HZ1:=n8 hz1;have HZ2:=n8 hz2;obtain ⟨n,hn⟩:∃ n:Nat,n=p.length+q.length:=⟨_,rfl⟩;have Bb:(p.length:Int)+(q.length:Int)=(n:Int):=by omega
 have Bc:n<=10000000000:=by omega
 have hnp:p.length<=n:=by omega
 have HN:=n8 hn;clear hi pH hz1 hz2 hu hv qX hcv hp hq hn
 go_enter func174,ntmps174
 go_wp2_with (at_make;refine wpList_make_full _ rfl _ _ 209 rfl w.heap.size 204 i0 (.int .u64 0) 1 underlying209 HI HZ0 HZ1 _ _ _ _ n rfl rfl rfl rfl ?c1 ?c2 ?c3 ?_)
 case c1=>rw [HZ2.out];omega
 case c2=>unfold maxLen;omega
 case c3=>exact oJ _
 intro w1 hown oe;have hE1:=jm oe;have HO0:=n8 (ae.made hown);have HS0:Hid (j9 p q 0 (List.replicate n 0)):=by unfold Hid;rw [HN.out];exact j9.start p q
 clear hown oe;go_wp2_with fail
 go_loopw [19] (fun t wr=>∃ (i:Nat) (L:List Nat),i<=p.length/\t=.int .i64 i/\aC w wr/\Hid (ae w.heap.size wr (.slice (some ⟨w.heap.size,0,none⟩) n n) L)/\Hid (j9 p q i L)) (fun t _=>p.length-(intOf t).toNat)
 case atStart=>exact ⟨0,_,by omega,rfl,hE1,HO0,HS0⟩
 case round =>
  obtain ⟨i,L,hi,rfl,pP,HO,HS⟩:=hrel;obtain ⟨wo,rfl⟩:∃ wo:World,wo=wr:=⟨_,rfl⟩;clear HO0 HS0;by_cases hlt:i<p.length
  ·obtain ⟨x,hx⟩:∃ x,p[i]?=some x:=⟨_,n9 hlt⟩;obtain ⟨ba,oa,rfl,-,qA⟩:=HU (by rintro rfl;simp at hlt);have g1:=pP.cell (qA i x hx);have hxb:=HP.get hx;have HX:=n8 hx;have HK0:=n8 (HS.enter x);clear hx qA;go_wp2_with fail;clear g1
   go_loopw [26,8] (fun t c wr=>∃ (k cc:Nat) (L:List Nat),k<=q.length/\t=.int .i64 k/\c=.int .u64 cc/\cc<1000000000/\aC w wr/\Hid (ae w.heap.size wr (.slice (some ⟨w.heap.size,0,none⟩) n n) L)/\Hid (j8 p q i x k cc L)) (fun t _ _=>q.length-(intOf t).toNat)
   case atStart=>exact ⟨0,0,L,by omega,rfl,rfl,by omega,pP,HO,HK0⟩
   case round =>
    obtain ⟨k,cc,L',hk,rfl,rfl,pd,tK,HOi,tz⟩:=hrel;obtain ⟨wi,rfl⟩:∃ wi:World,wi=wr:=⟨_,rfl⟩;have Le:i+q.length<n:=by have:=HN.out;omega
    have Bt:Hid (L'.length=n):=by unfold Hid;rw [tz.out.len,HN.out]
    by_cases hkl:k<q.length
    ·obtain ⟨z,hz⟩:∃ z,q[k]?=some z:=⟨_,n9 hkl⟩;obtain ⟨bb,ob,rfl,-,rM⟩:=HV (by rintro rfl;simp at hkl);have g2:=tK.cell (rM k z hz);obtain ⟨y,hy⟩:∃ y,L'[i+k]?=some y:=⟨_,n9 (by have:=Bt.out;omega)⟩;obtain ⟨g3,f3⟩:=HOi.get hy;have hyb:=tz.pcs.get hy;have hzb:=HQ.get hz;have hm:=q3_ hxb hzb;obtain ⟨m,hmm⟩:∃ m,x*z=m:=⟨_,rfl⟩;rw [hmm] at hm;have xF:(x:Int)*(z:Int)=(m:Int):=by rw [<- hmm];exact (Int.natCast_mul _ _).symm
     obtain ⟨c',qj⟩:∃ c',c'=cc+y+m:=⟨_,rfl⟩;have Ef:(cc:Int)+((y:Int)+(m:Int))=(c':Int):=by omega
     obtain ⟨r,hr⟩:∃ r,r=c'%1000000000:=⟨_,rfl⟩;obtain ⟨d,hd⟩:∃ d,d=c' / 1000000000:=⟨_,rfl⟩;have qD:(c':Int)%1000000000=(r:Int):=by omega
     have sH:(c':Int) / 1000000000=(d:Int):=by omega
     have ry:d<1000000000:=by omega
     have C9:c'<1000000000000000000:=by omega
     have AB:r<1000000000:=by omega
     have HK2:Hid (j8 p q i x (k+1) d (L'.set (i+k) r)):=by
      unfold Hid;rw [hd];exact tz.step hz hy hxb (by rw [qj,hmm]) (by omega) hr
     have HO2:=n8 (HOi.set (i+k) r);have hik:i+k<n:=by omega
     have qC:w.heap.size<=wi.heap.size:=tK.size;clear hz hy rM hmm qj hr hd;go_wp2_with fail;go_roundw
     case rel=>exact ⟨k+1,d,_,by omega,by go_num,rfl,ry,Below.setCell tK (p:=⟨w.heap.size,i+k,none⟩) (oJ _) _,HO2,HK2⟩
     case measure=>simp [intOf];omega
    ·obtain rfl:q.length=k:=by omega
     have hend:=tz.leave HX;obtain ⟨g3,f3⟩:=HOi.get hend.2;have HS2:=n8 hend.1;have HO2:=n8 (HOi.set (i+q.length) cc);clear hend;go_wp2_with fail;go_roundw
     case rel=>exact ⟨i+1,_,by omega,by go_num,Below.setCell tK (p:=⟨w.heap.size,i+q.length,none⟩) (oJ _) _,HO2,HS2⟩
     case measure=>simp [intOf];omega
  ·obtain rfl:p.length=i:=by omega
   have HT:=n8 (kf w.heap.size L _ wo HO HS.pcs);have HV:=HS.val;rw [List.take_length] at HV;have HV:=n8 HV;have HL:=n8 HS.len;go_wp2_with fail;refine HT.mono ?_;rintro e w5 ⟨r,l,rfl,hr,kk,rfl⟩;have HR:=n8 hr;clear hr HT;go_wp2_with fail;go_ret;exact ⟨r,l,rfl,⟨HR.out.out.1,HR.out.out.2.1,HR.out.out.2.2.1.trans HV,by rw [<- HL.out];exact HR.out.out.2.2.2⟩,aC.draws pP _⟩
theorem C8_ (p:List Nat) (n:Nat) (u:Value) (w:World) (hu:dI w u p) (hp:aS p) (hn:n<1000000000) (AI:0<n) (tU:p.length<=5000000000) :
  Calls prog 212 #[u,.int .u64 n] w fun e w'=>∃ r l,e=.returned r/\Hid (ae w.heap.size w' r l/\ai l/\lv l=lv p*n/\l.length<=p.length+1)/\aC w w':=by
 have HU:=n8 hu;have HP:=n8 hp;have HO:Hid (ae w.heap.size (w.alloc (.cells #[.int .u64 n] 204)) (.slice (some ⟨w.heap.size,0,none⟩) 1 1) [n]):=by
  have:=World.ownsRow_lit (e:=204) (size:=1) w #[Value.int .u64 n] 1 (oJ _) (by unfold maxLen;omega) rfl;exact this
 have CB:Hid (aS [n]):=aS.cons hn aS.nil;have HT:=n8 (kf w.heap.size [n] _ _ HO CB);clear hu hp
 go_enter func212,ntmps212
 go_wp2_with fail;refine HT.mono ?_;rintro e w1 ⟨r,l,rfl,hr,kk,rfl⟩;have HR:=n8 hr;have HE1:Hid (aC w ((w.alloc (.cells #[.int .u64 n] 204)).drewN kk)):=aC.draws (aC.alloc _ _) _;have HM:=n8 (n2_ p l u r _ (dI.ext HU HE1) HR.out.out.1.at HP HR.out.out.2.1.1 tU (by have:=HR.out.out.2.2.2;simp at this;omega));clear hr HT;go_wp2_with fail;refine HM.mono ?_;rintro e w2 ⟨r2,l2,rfl,ph,oY⟩;have HR2:=n8 ph;have HE2:=n8 (aC.trans HE1 oY);clear ph oY HM;go_wp2_with fail;go_ret;refine ⟨r2,l2,rfl,⟨HR2.out.out.1.base HE1.size,HR2.out.out.2.1,?_,?_⟩,HE2⟩
 ·rw [HR2.out.out.2.2.1,HR.out.out.2.2.1,eX,dL,Nat.mul_zero,Nat.add_zero]
 ·have h1:=HR2.out.out.2.2.2;have h2:=HR.out.out.2.2.2;simp at h2;omega
structure iX (p:List Nat) (n k rest:Nat) (L:List Nat):Prop where
 len:L.length=p.length
 pcs:aS L
 lt:rest<n
 val:lv (p.drop k)=n*lv (L.drop k)+rest
theorem iX.start (p:List Nat) {n:Nat} (hn:0<n):iX p n p.length 0 (List.replicate p.length 0) :=
 ⟨by simp,aS.zeros _,hn,by rw [List.drop_length,List.drop_eq_nil_of_le (by simp),dL];simp⟩
theorem iX.step {p L:List Nat} {n k rest x:Nat} (h:iX p n (k+1) rest L) (hp:aS p) (hx:p[k]?=some x) (hn:0<n) :
  iX p n k ((rest*1000000000+x)%n) (L.set k ((rest*1000000000+x) / n)):=by
 have hk:=(n_.1 hx).1;refine ⟨by rw [List.length_set];exact h.len,h.pcs.set _ _ (c5_ h.lt (hp.get hx)),Nat.mod_lt _ hn,?_⟩;have e:lv ((L.set k ((rest*1000000000+x) / n)).drop k)=(rest*1000000000+x) / n+1000000000*lv (L.drop (k+1)):=by
  rw [ek (k:=k) (x:=(rest*1000000000+x) / n) (by rw [oV,if_pos rfl,if_pos (by rw [h.len];exact hk)])];rw [List.drop_set_of_lt (by omega)]
 rw [e];exact i6_ h.val (ek hx) hn
theorem o2_ (p:List Nat) (n:Nat) (u:Value) (w:World) (hu:dI w u p) (hp:aS p) (hn:n<1000000000) (AI:0<n) (tU:p.length<=10000000000) :
  Calls prog 193 #[u,.int .u64 n] w fun e w'=>∃ r l,e=.returned (.tuple #[r,.int .u64 ((lv p%n:Nat):Int)])/\Hid (ae w.heap.size w' r l/\ai l/\lv l=lv p / n/\l.length<=p.length)/\aC w w':=by
 obtain ⟨a,ca,rfl,qV,sV,qX⟩:=hu.open;have HP:=n8 hp;have HU:=n8 qX;obtain ⟨i0,hi,pH,hz1,hz2⟩:=info_parts jn;have HI:=n8 hi;have HZ0:=n8 pH;have HZ1:=n8 hz1;have HZ2:=n8 hz2;have HS0:=n8 (iX.start p AI);have Ba:((n:Int) == 0)=false:=by rw [beq_eq_false_iff_ne];omega
 have LP:¬ (n:Int)=0:=by omega
 clear hi pH hz1 hz2 hu qX hp
 go_enter func193,ntmps193
 go_wp2_with (at_make;refine wpList_make_full _ rfl _ _ 209 rfl w.heap.size 204 i0 (.int .u64 0) 1 underlying209 HI HZ0 HZ1 _ _ _ _ p.length rfl rfl rfl rfl ?c1 ?c2 ?c3 ?_)
 case c1=>rw [HZ2.out];omega
 case c2=>unfold maxLen;omega
 case c3=>exact oJ _
 intro w1 hown oe;have hE1:=jm oe;have HO0:=n8 (ae.made hown);clear hown oe;go_wp2_with fail
 go_loopw [7,8] (fun r t wr=>∃ (rr:Nat) (y:Int) (L:List Nat),r=.int .u64 rr/\t=.int .i64 y/\rr<n/\y<p.length/\-2<y/\aC w wr/\Hid (ae w.heap.size wr (.slice (some ⟨w.heap.size,0,none⟩) p.length p.length) L)/\Hid (∃ k:Nat,y+1=k/\iX p n k rr L)) (fun _ t _=>(intOf t+1).toNat)
 case atStart=>exact ⟨0,_,_,rfl,rfl,AI,by omega,by omega,hE1,HO0,⟨p.length,by omega,HS0⟩⟩
 case round =>
  obtain ⟨rr,y,L,rfl,rfl,qN,rm,qg,pP,HO,HS⟩:=hrel;obtain ⟨wo,rfl⟩:∃ wo:World,wo=wr:=⟨_,rfl⟩;clear HO0 HS0;by_cases hlt:0<=y
  ·obtain ⟨j,rfl⟩:∃ j:Nat,y=j:=⟨y.toNat,by omega⟩;have Fx:j<p.length:=by omega
   obtain ⟨x,hx⟩:∃ x,p[j]?=some x:=⟨_,n9 Fx⟩;obtain ⟨ba,oa,rfl,-,qA⟩:=HU (by rintro rfl;simp at Fx);have g1:=pP.cell (qA j x hx);have hxb:=HP.get hx;have HSJ:Hid (iX p n (j+1) rr L):=by
    obtain ⟨k,e,h⟩:=HS.out;have:k=j+1:=by omega
    rw [this] at h;exact h
   obtain ⟨z,hz⟩:∃ z,L[j]?=some z:=⟨_,n9 (by rw [HSJ.out.len];exact Fx)⟩;obtain ⟨g3,f3⟩:=HO.get hz;obtain ⟨t,ht⟩:∃ t,t=rr*1000000000+x:=⟨_,rfl⟩;have y9:(rr:Int)*1000000000+(x:Int)=(t:Int):=by omega
   have htb:t<1000000000000000000:=by omega
   obtain ⟨q,hq⟩:∃ q,q=t / n:=⟨_,rfl⟩;obtain ⟨m,hm⟩:∃ m,m=t%n:=⟨_,rfl⟩;have ES:(t:Int) / (n:Int)=(q:Int):=by rw [hq];exact (Int.natCast_ediv _ _).symm
   have xF:(t:Int)%(n:Int)=(m:Int):=by rw [hm];exact (Int.natCast_emod _ _).symm
   have LD:(t:Int).tdiv (n:Int)=(q:Int):=by rw [Int.tdiv_eq_ediv_of_nonneg (by omega),ES]
   have Fi:(t:Int).tmod (n:Int)=(m:Int):=by rw [Int.tmod_eq_emod_of_nonneg (by omega),xF]
   have LS:m<n:=by rw [hm];exact Nat.mod_lt _ AI
   have HS2:Hid (iX p n j m (L.set j q)):=by
    unfold Hid;rw [hq,hm,ht];exact HSJ.step HP hx AI
   have FQ:q<1000000000:=by rw [hq,ht];exact c5_ qN hxb
   have HO2:=n8 (HO.set j q);have M9:Hid (∃ k:Nat,((j:Int)-1)+1=k/\iX p n k m (L.set j q)):=⟨j,by omega,HS2⟩;clear hx qA hz ht hq hm;go_wp2_with fail;go_roundw
   case rel=>exact ⟨m,_,_,rfl,rfl,LS,by omega,by omega,Below.setCell pP (p:=⟨w.heap.size,j,none⟩) (oJ _) _,HO2,M9⟩
   case measure=>simp [intOf]
  ·have HSZ:Hid (iX p n 0 rr L):=by
    obtain ⟨k,e,h⟩:=HS.out;have:k=0:=by omega
    rw [this] at h;exact h
   have hv:=HSZ.val;rw [List.drop_zero,List.drop_zero] at hv;have HQ:Hid (lv L=lv p / n/\rr=lv p%n):=by
    unfold Hid;rw [hv,Nat.mul_add_div AI,Nat.mul_add_mod,Nat.div_eq_of_lt qN,Nat.mod_eq_of_lt qN];omega
   have HT:=n8 (kf w.heap.size L _ wo HO HSZ.pcs);clear hv;go_wp2_with fail;refine HT.mono ?_;rintro e w5 ⟨r,l,rfl,hr,kk,rfl⟩;have HR:=n8 hr;clear hr HT;go_wp2_with fail;go_ret2;exact ⟨r,l,by rw [<- HQ.out.2];rfl,⟨HR.out.out.1,HR.out.out.2.1,HR.out.out.2.2.1.trans HQ.1,by rw [<- HSZ.out.len];exact HR.out.out.2.2.2⟩,aC.draws pP _⟩
end Go.Proofs.YtjlkkofmojgipaaGreatDoor
