import Derived.Test.YtoonaddcfakamaaGreatDoorYAB
import Derived.Test.YtoonaddcfakamaaGreatDoorYAA
import Derived.WalkSmall
import Derived.IntWalk
import Derived.OwnWalk
import Derived.Lib.ConvBytes
import Derived.RegionTactic
import Derived.ChangeAlike
set_option linter.unusedVariables false
set_option linter.unusedSimpArgs false
set_option maxRecDepth 1000000
set_option maxHeartbeats 4000000
namespace Go.Proofs.YtoonaddcfakamaaGreatDoor
open Go.RowKit Go.Proofs.Tryz
theorem jL:(prog.info? 197).map (fun i=>(i.zero,i.size,i.bytes))=some (some (.int .u64 0),1,8):=by kernel_rfl
theorem Z4e:(prog.info? 5).map (fun i=>(i.zero,i.size,i.bytes))=some (some (.int .u8 0),1,1):=by kernel_rfl
def pcV (x:Nat):Value:=.int .u64 x
def aS (B:Nat) (w:World) (v:Value) (l:List Nat):Prop:=w.ownsRow B 197 1 v l.length (l.map pcV)
def pcR (_:World) (u:List Value) (x:Nat):Prop:=u=[pcV x]
theorem pcR.mono:gT pcR:=fun _ _ _ _ _ h=>h
abbrev cn (w:World) (v:Value) (l:List Nat):Prop:=aR 1 pcR w v l
theorem cn.ext {w w':World} {v:Value} {l:List Nat} (h:cn w v l) (he:aA w w'):cn w' v l:=aR.ext pcR.mono h he
theorem aS.at {B:Nat} {w:World} {v:Value} {l:List Nat} (h:aS B w v l):cn w v l:=by
 refine ⟨l.map fun x=>[pcV x],by simp,by simp,?_,?_⟩
 ·have:=dD.of_owns h
  rwa [eW]
 ·intro j u x hu hx;simp only [nx,hx,Option.map_some,Option.some.injEq] at hu;exact hu.symm
theorem aS.ext {B:Nat} {w w':World} {v:Value} {l:List Nat} (h:aS B w v l) (he:aA w w'):aS B w' v l:=fN h he
theorem aS.form {B:Nat} {w:World} {v:Value} {l:List Nat} (h:aS B w v l):∃ a cap,v=.slice a l.length cap/\l.length<=cap/\cap<=9223372036854775807/\(l≠[]->∃ g,a=some ⟨g,0,none⟩/\B<=g/\g<w.heap.size):=by
 rcases h.2 with ⟨rfl,hn⟩ | ⟨g,cap,cur,rfl,hb,hg,h1,h2,h3,h4⟩
 ·exact ⟨none,0,by rw [hn],by omega,by omega,fun hne=>absurd (List.length_eq_zero_iff.1 hn) hne⟩
 ·exact ⟨_,cap,rfl,h1,h2,fun _=>⟨g,rfl,hb,(Array.getElem?_eq_some_iff.1 hg).1⟩⟩
theorem aS.base {B B':Nat} {w:World} {v:Value} {l:List Nat} (h:aS B w v l) (hb:B'<=B):aS B' w v l:=by
 refine ⟨h.1,?_⟩;rcases h.2 with h' | ⟨g,cap,cur,e,hg,rest⟩
 ·exact .inl h'
 ·exact .inr ⟨g,cap,cur,e,n8 hb hg,rest⟩
theorem aS.nil (B:Nat) (w:World):aS B w (.slice none 0 0) []:=World.ownsRow_nil w B 197 1
theorem aS.get {B g n cap:Nat} {w:World} {l:List Nat} (h:aS B w (.slice (some ⟨g,0,none⟩) n cap) l) {k x:Nat} (hx:l[k]?=some x) :
  w.cell? ⟨g,k,none⟩=some (.int .u64 x)/\w.frozen? ⟨g,k,none⟩=false:=by
 have hk:k<l.length:=(nt.1 hx).1;have hn:n=l.length:=by
  rcases h.2 with ⟨e,_⟩ | ⟨g',cap',cur,e,_⟩
  ·cases e
  ·simp only [Value.slice.injEq] at e;exact e.2.1
 subst hn;exact ⟨(World.ownsRow.cellAt h k (by simpa using hk)).trans (by simp [hx,pcV]),World.ownsRow.frozenAt h k⟩
theorem aS.set {B g n cap:Nat} {w:World} {l:List Nat} (h:aS B w (.slice (some ⟨g,0,none⟩) n cap) l) (k x:Nat) :
  aS B (w.setCell ⟨g,k,none⟩ (.int .u64 x)) (.slice (some ⟨g,0,none⟩) n cap) (l.set k x):=by
 have hn:n=l.length:=by
  rcases h.2 with ⟨e,_⟩ | ⟨g',cap',cur,e,_⟩
  ·cases e
  ·simp only [Value.slice.injEq] at e;exact e.2.1
 subst hn;unfold aS at h |-;rw [List.map_set,List.length_set];exact (World.ownsRow.stored h k _).1
theorem aS.take {B g n cap:Nat} {w:World} {l:List Nat} (h:aS B w (.slice (some ⟨g,0,none⟩) n cap) l) (m:Nat) (hm:m<=l.length) :
  aS B w (.slice (some ⟨g,0,none⟩) m cap) (l.take m):=by
 have hl:(l.take m).length=m:=by rw [ny];omega
 refine ⟨by rw [List.length_map,Nat.mul_one],.inr ?_⟩;rcases h.2 with ⟨e,_⟩ | ⟨g',cap',cur,e,hb,hg,h1,h2,h3,h4⟩
 ·cases e
 ·simp only [Value.slice.injEq,Option.some.injEq,Addr.mk.injEq] at e;obtain ⟨⟨rfl,-,-⟩,rfl,rfl⟩:=e;refine ⟨g,cap,cur,by rw [hl],hb,hg,by omega,h2,h3,?_⟩;rw [Nat.mul_one] at h4 |-;rw [List.map_take,<- h4,List.take_take,hl,Nat.min_eq_left (by omega)]
theorem aS.len {B g n cap:Nat} {w:World} {l:List Nat} (h:aS B w (.slice (some ⟨g,0,none⟩) n cap) l):n=l.length:=by
 rcases h.2 with ⟨e,_⟩ | ⟨g',cap',cur,e,_⟩
 ·cases e
 ·simp only [Value.slice.injEq] at e;exact e.2.1
theorem cn.open {w:World} {v:Value} {l:List Nat} (h:cn w v l) :
  ∃ (a:Option Addr) (cap:Nat),v=.slice a l.length cap/\l.length<=cap/\cap<=9223372036854775807 /\
   (l≠[]->∃ b off,a=some ⟨b,off,none⟩/\b<w.heap.size/\∀ (j:Nat) x,l[j]?=some x->w.cell? ⟨b,off+j,none⟩=some (.int .u64 x)):=by
 obtain ⟨a,cap,hv,h1,h2,h3,h4⟩:=aR.open h;refine ⟨a,cap,hv,h1,h2,fun hx=>?_⟩;obtain ⟨b,off,ha,hb,hc⟩:=h4 (by omega) hx;refine ⟨b,off,ha,hb,fun j x hj=>?_⟩;obtain ⟨u,_,hr,hcell⟩:=hc j x hj;have:=hcell 0 (by omega);rw [hr] at this;simpa [pcV] using this
theorem aS.made {B n:Nat} {w:World} {v:Value} (h:w.ownsRow B 197 1 v n (madeCells #[.int .u64 0] n).toList):aS B w v (List.replicate n 0):=by
 unfold aS;rw [List.length_replicate];have e:(madeCells #[Value.int .u64 0] n).toList=(List.replicate n 0).map pcV:=(toList_madeCells_one _ _).trans (by simp [pcV])
 rwa [e] at h
theorem aS.build {B:Nat} {w:World} {v:Value} {l:List Nat} (h:aS B w v l):aj w B 197 1 v pcR l:=by
 refine ⟨l.map fun x=>[pcV x],by simp,by simp,?_,?_⟩;·rw [eW];exact h
 ·intro j u x hu hx w' _;simp only [nx,hx,Option.map_some,Option.some.injEq] at hu;exact hu.symm
theorem aj.ownP {B:Nat} {w:World} {v:Value} {l:List Nat} (h:aj w B 197 1 v pcR l):aS B w v l:=by
 obtain ⟨us,h1,h2,h3,h4⟩:=h;have:us=l.map fun x=>[pcV x]:=by
  apply List.ext_getElem?;intro i;rw [nx];by_cases hi:i<l.length
  ·have qA:i<us.length:=(by omega);have:=(h4 i us[i] l[i] (by simp [qA]) (by simp [hi])).now;simp only [pcR] at this;simp [hi,qA,this]
  ·rw [n_ (by omega),n_ (by omega)];rfl
 rw [this,eW] at h3;exact h3
theorem j9 (B:Nat) (l:List Nat) (v:Value) (w:World) (h:aS B w v l) (hp:aO l) :
  Calls prog 158 #[v] w fun e w'=>∃ v' l',e=.returned v'/\Hid (aS B w' v' l'/\bH l'/\lv l'=lv l/\l'.length<=l.length)/\∃ k,w'=w.drewN k:=by
 obtain ⟨a,cap,rfl,hl,hc,hg⟩:=h.form;have HW:=np h;have HP:=np hp;have HG:=np hg;clear h hp hg
 go_enter func158,ntmps158
 go_wp2_with fail
 go_loopw [0] (fun t wr=>∃ m:Nat,m<=l.length/\t=.slice a m cap/\Hid (lv (l.take m)=lv l)/\∃ k,wr=w.drewN k) (fun t _=>match t with | .slice _ m _=>m | _=>0)
 case atStart=>exact ⟨l.length,n9 _,rfl,by unfold Hid;rw [List.take_length],0,rfl⟩
 case round =>
  obtain ⟨m,hm,rfl,HV,k,rfl⟩:=hrel;by_cases h0:m=0
  ·subst h0;have HF:Hid (aS B w (.slice a 0 cap) []/\bH []/\lv []=lv l/\([]:List Nat).length<=l.length):=by
    refine ⟨?_,bH.nil,HV,Nat.zero_le _⟩;by_cases hn:l=[];·subst hn;exact HW
    ·obtain ⟨g,rfl,-,-⟩:=HG hn;exact HW.take 0 (Nat.zero_le _)
   go_wp2_with fail;go_ret;exact ⟨_,[],rfl,HF,k,rfl⟩
  ·have hne:l≠[]:=(by rintro rfl;simp at hm;omega);obtain ⟨g,rfl,hg1,z8⟩:=HG hne;obtain ⟨x,hx⟩:∃ x,l[m-1]?=some x:=⟨_,ns (by omega)⟩;obtain ⟨hcell,-⟩:=HW.get hx;have xU:(0:Int)<=(m:Int)-1:=(by omega);have vn:((m:Int)-1).toNat=m-1:=(by omega);have qA:1<=m:=(by omega);by_cases pQ:x=0
   ·subst pQ;have DO:Hid (lv (l.take (m-1))=lv l):=by
     unfold Hid;have:=jt hx;rw [show m-1+1=m by omega,Nat.mul_zero,Nat.add_zero,HV.out] at this;exact this.symm
    clear hx h0 hne;go_wp2_with fail;go_roundw
    case rel=>exact ⟨m-1,by omega,by first | rfl | (simp;omega),DO,k,rfl⟩
    case measure=>simp;omega
   ·have HF:Hid (aS B w (.slice (some ⟨g,0,none⟩) m cap) (l.take m)/\bH (l.take m)/\lv (l.take m)=lv l/\(l.take m).length<=l.length):=by
     refine ⟨HW.take m hm,⟨HP.take m,?_⟩,HV,by rw [ny];omega⟩;intro y hy;rw [ny,Nat.min_eq_left hm,List.getElem?_take,if_pos (by omega),hx] at hy;cases hy;exact pQ
    have hxb:((x:Int) == 0)=false:=(by rw [beq_eq_false_iff_ne];omega);clear hx h0 hne;go_wp2_with fail;go_ret;exact ⟨_,_,rfl,HF,k,rfl⟩
theorem T5_ (s:ByteArray) (j:Nat) (h:j<s.size):s.data.toList[j]?=some s[j]:=by
 have:j<s.data.toList.length:=by rw [<- Lib.size_eq];exact h
 rw [ns this];rfl
theorem Z2R (s:ByteArray) (w:World):∃ (cap:Nat) (W1:World),
  (convert 92 107 (.string s)).run prog w=.ok (.slice (some ⟨w.heap.size,0,none⟩) s.size cap) W1/\aA w W1 /\
   ∀ (j:Nat) c,s.data.toList[j]?=some c->W1.cell? ⟨w.heap.size,j,none⟩=some (.int .u8 c.toNat):=by
 refine ⟨_,_,Lib.run_convert_string_bytes (P:=prog) w 92 107 5 s (u:=.string) underlying92 underlying107 underlying5,⟨rfl,rfl,rfl,by rw [Lib.bytesWorld_size];omega,fun j hj=>Lib.bytesWorld_at_old w _ s j hj⟩,fun j c hc=>?_⟩;have hj:j<s.size:=by rw [Lib.size_eq];exact (nt.1 hc).1
 rw [Lib.bytesWorld_cell w _ s j hj];simp [List.getD,hc]
theorem jI {w w':World} (h:w.grownBy w' none):aA w w':=⟨h.os,h.tape,h.output,h.size,fun k hk=>h.block k hk (by simp)⟩
theorem Z4F (s:ByteArray) (w:World) (hd:s.data.toList.all eB=true) (hs:s.size<=40000000000) :
  Calls prog 156 #[.string s] w fun e w'=>∃ v l,e=.returned v/\Hid (aS w.heap.size w' v l/\bH l/\lv l=al 0 s.data.toList/\l.length<=s.size)/\aA w w':=by
 obtain ⟨i0,hi,oy,hz1,hz2⟩:=info_parts jL;have HI:=np hi;have HZ0:=np oy;have HZ1:=np hz1;have HZ2:=np hz2;have HD:=np hd;clear hi oy hz1 hz2 hd;obtain ⟨c,hc⟩:∃ c:Nat,c=s.size / 9+1:=⟨_,rfl⟩;have AD:c<=10000000000:=by omega
 have qO:((s.size:Int) / 9+1)=(c:Int):=by omega
 have hl:s.data.toList.length=s.size:=(Lib.size_eq s).symm;have HL:=np hl;clear hl hc
 go_enter func156,ntmps156
 go_wp2_with (at_make;refine wpList_make_own _ rfl _ _ 202 rfl w.heap.size 197 i0 (.int .u64 0) 1 underlying202 HI HZ0 HZ1 _ _ _ c rfl rfl rfl ?c1 ?c2 ?c3 ?_)
 case c1=>rw [HZ2.out];omega
 case c2=>unfold maxLen;omega
 case c3=>exact n9 _
 intro w1 hown oV;have HO:Hid (aS w.heap.size w1 (.slice (some ⟨w.heap.size,0,none⟩) 0 c) []):=hown;have hE1:=jI oV;clear hown oV;go_wp2_with fail;have HB0:Hid (aj w1 w.heap.size 197 1 (.slice (some ⟨w.heap.size,0,none⟩) 0 c) pcR []):=aS.build HO;have HS0:Hid (aO []/\([]:List Nat).length=0/\lv []=al 0 (s.data.toList.drop (s.size-9*0))):=by
  refine ⟨aO.nil,rfl,?_⟩;rw [Nat.mul_zero,Nat.sub_zero,List.drop_eq_nil_of_le (by rw [HL.out];exact n9 _)];rfl
 clear HO AD qO
 go_loopw [3,4] (fun out i wr=>∃ (k:Nat) (e:Int) (l:List Nat),i=.int .i64 e/\e<=(s.size:Int)/\-9<e/\Hid (e=s.size-9*k)/\aA w wr/\Hid (aj wr w.heap.size 197 1 out pcR l)/\Hid (aO l/\l.length=k/\lv l=al 0 (s.data.toList.drop (s.size-9*k)))) (fun _ i _=>(intOf i).toNat)
 case atStart=>exact ⟨0,_,[],rfl,by omega,by omega,by unfold Hid;omega,hE1,HB0,HS0⟩
 case round =>
  obtain ⟨k,e,l,rfl,Ez,C3,HE,s8,HB,HS⟩:=hrel;obtain ⟨wo,rfl⟩:∃ wo:World,wo=wr:=⟨_,rfl⟩;clear HB0 HS0;by_cases h0:0<e
  ·obtain ⟨m,rfl⟩:∃ m:Nat,e=m:=⟨e.toNat,by omega⟩;have HM:Hid (m=s.size-9*k):=(by have:=HE.out;unfold Hid;omega);have LS:Hid (s.size-m=9*k):=(by have:=HE.out;unfold Hid;omega);have xH:Hid (∀ f:Nat,f<=m->m<=f+9->(0<f->f+9=m)->m<=s.size->(s.extract f m).data.toList=(s.data.toList.take m).drop f/\(s.extract f m).size=m-f):=by
    intro f h1 h2 h3 h4;have e:(s.extract f m).data.toList=(s.data.toList.take m).drop f:=(by rw [Lib.extract_data,List.drop_take]);refine ⟨e,?_⟩;rw [Lib.size_eq,e,List.length_drop,ny,HL.out];omega
   obtain ⟨f,hf⟩:∃ f:Nat,(m<=9/\f=0)\/(9<m/\(m:Int)-9=(f:Int)):=by
    by_cases h9:m<=9;·exact ⟨0,.inl ⟨h9,rfl⟩⟩
    ·exact ⟨m-9,.inr ⟨by omega,by omega⟩⟩
   have yx:m<=s.size:=(by omega);have IG:f<=m:=(by omega);have Ew:m<=f+9:=(by omega);have HX:=np (xH f IG Ew (by omega) yx);obtain ⟨cap,W1,hcv,hE1,hcell⟩:=Z2R (s.extract f m) wo;obtain ⟨b,hb⟩:=oO (s.extract f m);rw [<- hb] at hcell HX;have C4:b.size=m-f:=HX.2;rw [<- hb,C4] at hcv;rw [hb] at hcv;have HC:=np hcell;have HE1:=np (s8.trans hE1);have HB1:=np (aj.ext HB hE1);obtain ⟨mf,BF⟩:=oO (m-f);rw [<- BF] at hcv C4;have J7:mf<=9:=(by omega);have HBS:=np C4;have HMF:=np BF;clear hcell hE1 hb C4 xH BF;rcases hf with ⟨h9,rfl⟩ | ⟨h9,hf⟩
   all_goals
    go_wp2_with fail;clear hcv
    go_loopw [27,5] (fun j n wr=>∃ (i v:Nat),i<=mf/\j=.int .i64 i/\n=.int .u64 v/\v<=1000000000/\Hid (v=al 0 (b.data.toList.take i))/\Hid (aA W1 wr)) (fun j _ _=>mf-(intOf j).toNat)
    case atStart=>exact ⟨0,0,by omega,rfl,rfl,by omega,rfl,aA.refl _⟩
    case round =>
     obtain ⟨i,v,hi,rfl,rfl,hv,HV,DR⟩:=hrel;obtain ⟨wi,rfl⟩:∃ wi:World,wi=wr:=⟨_,rfl⟩;have pC:Hid (b.data.toList.all eB=true):=(by unfold Hid;rw [HX.out.1];exact Z0G HD _ _);by_cases hlt:i<mf
     ·obtain ⟨ch,tj⟩:∃ ch,b.data.toList[i]?=some ch:=⟨_,T5_ b i (by rw [HBS.out];exact hlt)⟩;have g1:=DR.cell (HC i ch tj);have E2:48<=ch.toNat/\ch.toNat<=57:=of_decide_eq_true (List.all_eq_true.1 pC ch (nw tj));obtain ⟨z,hz⟩:∃ z:Nat,ch.toNat=z+48:=⟨ch.toNat-48,by omega⟩;have Lq:z<=9:=(by omega);have DO:Hid (10*v+z=al 0 (b.data.toList.take (i+1))):=by
       unfold Hid;rw [nz,tj,mm,<- HV.out];show _=al v [ch];rw [fk,jF,hz];omega
      have qe:10*v+z<=1000000000:=by
       have:=d2_ (Z0G (e:=i+1) (f:=0) pC) (by rw [List.drop_zero,ny];omega);rw [List.drop_zero,<- DO.out] at this;omega
      rw [hz] at g1;clear tj E2 hz;go_wp2_with fail;go_roundw
      case rel=>exact ⟨i+1,10*v+z,by omega,by go_num,by go_num,qe,DO,DR⟩
      case measure=>simp [intOf];omega
     ·obtain rfl:mf=i:=(by omega);have HBi:=np (aj.ext HB1 DR);have HEi2:=np (aA.trans HE1 DR);have Am:w.heap.size<=wi.heap.size:=HEi2.size;have HLL:Hid (l.length<100000000000):=(by have:=HS.2.1;unfold Hid;have:=HE.out;omega);have Ga:Hid (aO (l++[v])/\(l++[v]).length=k+1/\lv (l++[v])=al 0 (s.data.toList.drop (s.size-9*(k+1)))):=by
       have rN:b.data.toList.length=mf:=(by rw [<- Lib.size_eq,HBS.out]);have G2:v=al 0 b.data.toList:=(by rw [HV.out,List.take_of_length_le (by omega)]);have Jk:v<1000000000:=(by rw [G2];exact d2_ pC (by omega));refine ⟨HS.1.append (aO.cons Jk aO.nil),by rw [oJ,HS.out.2.1];rfl,?_⟩;rw [ia,HS.out.2.2,HS.out.2.1,fI,eF,Nat.mul_zero,Nat.add_zero,G2,HX.out.1,<- HM.out];have:=Z0T (l:=s.data.toList) (e:=m) (k:=k) (by rw [HL.out];exact yx) (by rw [HL.out];exact LS) _ IG rfl;rw [this];congr 2;have:=HE.out;omega
      clear hlt;go_wp2_with (at_builtin;go_must (refine Z0_ _ rfl _ _ 202 rfl w.heap.size 197 (.int .u64 0) 1 8 underlying202 jL rfl (by decide) u3 pcR l v #[.int .u64 v] 197 rfl HBi rfl rfl ?_ (fun _ _=>rfl) HLL (by decide) Am ?_))
      all_goals first | (simp [Value.oneCell'];done) | skip
      intro v' w5 ow qM hb5 hs5 _;have HB5:=np ow;have HX5:=np (Below.trans HEi2 hb5);clear ow qM hb5;go_wp2_with fail;go_roundw
      case rel=>exact ⟨k+1,_,l++[v],rfl,by omega,by omega,by have:=HE.out;unfold Hid;omega,HX5,HB5,Ga⟩
      case measure=>simp [intOf];omega
  ·have HF:Hid (lv l=al 0 s.data.toList):=by
    have:=HE.out;unfold Hid;rw [HS.out.2.2,show s.size-9*k=0 by omega,List.drop_zero]
   have HW:Hid (aS w.heap.size wo u3 l):=HB.ownP;have HT:=np (j9 w.heap.size l u3 wo HW HS.1);go_wp2_with fail;refine HT.mono ?_;rintro e' w' ⟨v',l',rfl,hr,kk,rfl⟩;have HR:=np hr;clear hr HT;go_wp2_with fail;go_ret;refine ⟨v',l',rfl,⟨HR.out.out.1,HR.out.out.2.1,HR.out.out.2.2.1.trans HF,?_⟩,aA.draws s8 _⟩;have:=HR.out.out.2.2.2;have:=HS.2.1;have:=HE.out;omega
def mc (c:UInt8):Value:=.int .u8 c.toNat
def eS (B:Nat) (w:World) (v:Value) (l:List UInt8):Prop:=w.ownsRow B 5 1 v l.length (l.map mc)
theorem eS.len {B g n cap:Nat} {w:World} {l:List UInt8} (h:eS B w (.slice (some ⟨g,0,none⟩) n cap) l):n=l.length:=by
 rcases h.2 with ⟨e,_⟩ | ⟨g',cap',cur,e,_⟩
 ·cases e
 ·simp only [Value.slice.injEq] at e;exact e.2.1
theorem eS.get {B g n cap:Nat} {w:World} {l:List UInt8} (h:eS B w (.slice (some ⟨g,0,none⟩) n cap) l) {k:Nat} {x:UInt8} (hx:l[k]?=some x) :
  w.cell? ⟨g,k,none⟩=some (.int .u8 x.toNat)/\w.frozen? ⟨g,k,none⟩=false:=by
 have hk:k<l.length:=(nt.1 hx).1;have hn:=h.len;subst hn;exact ⟨(World.ownsRow.cellAt h k (by simpa using hk)).trans (by simp [hx,mc]),World.ownsRow.frozenAt h k⟩
theorem eS.set {B g n cap:Nat} {w:World} {l:List UInt8} (h:eS B w (.slice (some ⟨g,0,none⟩) n cap) l) (k:Nat) (x:UInt8) :
  eS B (w.setCell ⟨g,k,none⟩ (.int .u8 x.toNat)) (.slice (some ⟨g,0,none⟩) n cap) (l.set k x):=by
 have hn:=h.len;subst hn;unfold eS at h |-;rw [List.map_set,List.length_set];exact (World.ownsRow.stored h k _).1
theorem eS.form {B:Nat} {w:World} {v:Value} {l:List UInt8} (h:eS B w v l):∃ a cap,v=.slice a l.length cap/\l.length<=cap/\cap<=9223372036854775807/\(l≠[]->∃ g,a=some ⟨g,0,none⟩/\B<=g/\g<w.heap.size):=by
 rcases h.2 with ⟨rfl,hn⟩ | ⟨g,cap,cur,rfl,hb,hg,h1,h2,h3,h4⟩
 ·exact ⟨none,0,by rw [hn],by omega,by omega,fun hne=>absurd (List.length_eq_zero_iff.1 hn) hne⟩
 ·exact ⟨_,cap,rfl,h1,h2,fun _=>⟨g,rfl,hb,(Array.getElem?_eq_some_iff.1 hg).1⟩⟩
theorem eS.draws {B:Nat} {w:World} {v:Value} {l:List UInt8} (h:eS B w v l) (k:Nat):eS B (w.drewN k) v l:=fN h (aA.drewN w k)
def jk (_:World) (u:List Value) (x:UInt8):Prop:=u=[mc x]
theorem aj.ownB {B:Nat} {w:World} {v:Value} {l:List UInt8} (h:aj w B 5 1 v jk l):eS B w v l:=by
 obtain ⟨us,h1,h2,h3,h4⟩:=h;have:us=l.map fun x=>[mc x]:=by
  apply List.ext_getElem?;intro i;rw [nx];by_cases hi:i<l.length
  ·have qA:i<us.length:=(by omega);have:=(h4 i us[i] l[i] (by simp [qA]) (by simp [hi])).now;simp only [jk] at this;simp [hi,qA,this]
  ·rw [n_ (by omega),n_ (by omega)];rfl
 rw [this,eW] at h3;exact h3
def jC (bs l:List UInt8) (i:Nat):Prop:=l.length=bs.length/\∀ k,k<bs.length->l[k]?=if k<i\/bs.length<=k+i then bs[bs.length-1-k]? else bs[k]?
theorem jC.zero (bs:List UInt8):jC bs bs 0:=⟨rfl,fun k hk=>by rw [if_neg (by omega)]⟩
theorem jC.done {bs l:List UInt8} {i:Nat} (h:jC bs l i) (hi:bs.length<=2*i+1):l=bs.reverse:=by
 apply List.ext_getElem?;intro k;by_cases hk:k<bs.length
 ·rw [h.2 k hk,List.getElem?_reverse hk]
  split
  ·rfl
  ·have:bs.length-1-k=k:=(by omega);rw [this]
 ·rw [n_ (by have:=h.1;omega),n_ (by rw [List.length_reverse];omega)]
theorem jC.step {bs l:List UInt8} {i j:Nat} {x y:UInt8} (h:jC bs l i) (hj:i+j+1=bs.length) (pO:i<j) (hx:l[i]?=some x) (hy:l[j]?=some y):jC bs ((l.set i y).set j x) (i+1):=by
 have hl:=h.1;refine ⟨by simp [hl],fun k hk=>?_⟩;have h1:=h.2 i (by omega);have h2:=h.2 j (by omega);rw [if_neg (by omega)] at h1 h2;rw [oK,oK];by_cases e1:j=k
 ·subst e1;rw [if_pos rfl,if_pos (by simp [hl];omega),if_pos (by omega),show bs.length-1-j=i by omega,<- h1,hx]
 ·rw [if_neg e1];by_cases e2:i=k
  ·subst e2;rw [if_pos rfl,if_pos (by omega),if_pos (by omega),show bs.length-1-i=j by omega,<- h2,hy]
  ·rw [if_neg e2,h.2 k hk];by_cases c:k<i\/bs.length<=k+i;·rw [if_pos c,if_pos (by omega)]
   ·rw [if_neg c,if_neg (by omega)]
theorem j8_ (B:Nat) (bs:List UInt8) (v:Value) (w:World) (h:eS B w v bs) :
  Calls prog 238 #[v] w fun e w'=>e=.returned (.tuple #[])/\eS B w' v bs.reverse/\w.grownBy w' v.ownBlock:=by
 obtain ⟨a,cap,rfl,hl,hc,hg⟩:=h.form;have HW:=np h;have HG:=np hg;clear h hg
 go_enter func238,ntmps238
 go_wp2_with fail
 go_loopw [2,3] (fun i j wr=>∃ (x:Nat) (y:Int) (l:List UInt8),i=.int .i64 x/\j=.int .i64 y/\(x:Int)<=bs.length/\y<bs.length/\-2<y/\Hid ((x:Int)+y+1=bs.length)/\Hid (eS B wr (.slice a bs.length cap) l)/\Hid (jC bs l x)/\Hid (w.grownBy wr (Value.slice a bs.length cap).ownBlock)) (fun i j _=>(intOf j-intOf i).toNat)
 case atStart=>exact ⟨0,_,bs,rfl,rfl,by omega,by omega,by omega,by unfold Hid;omega,HW,jC.zero bs,World.grownBy.refl _ _⟩
 case round =>
  obtain ⟨x,y,l,rfl,rfl,hx,hy,rF,xl,HO,HS,HGR⟩:=hrel;obtain ⟨wo,rfl⟩:∃ wo:World,wo=wr:=⟨_,rfl⟩;by_cases hlt:(x:Int)<y
  ·obtain ⟨j,rfl⟩:∃ j:Nat,y=j:=⟨y.toNat,by omega⟩;have hxy:=xl.out;obtain ⟨g,rfl,hg1,z8⟩:=HG (by rintro rfl;simp at hy;omega);have hll:=HS.1;obtain ⟨cx,o7⟩:∃ c,l[x]?=some c:=⟨_,ns (by omega)⟩;obtain ⟨cy,rC⟩:∃ c,l[j]?=some c:=⟨_,ns (by omega)⟩;obtain ⟨c1,f1⟩:=HO.get o7;obtain ⟨c2,f2⟩:=HO.get rC;have HS2:=np (HS.step (by omega) (by omega) o7 rC);have HO2:=np ((HO.set x cy).set j cx);have HN:=np (fun k=>eS.draws (HO2) k);have Gx:x<bs.length:=(by omega);have zy:j<bs.length:=(by omega);have hne:¬ x=j:=(by omega);have yv:¬ j=x:=(by omega);clear hxy hll o7 rC HG;go_wp2_with fail
   go_region
   all_goals
    go_wp2_with fail;go_roundw
    case rel =>
     refine ⟨x+1,_,_,by go_num,rfl,by omega,by omega,by omega,by have:=xl.out;unfold Hid;omega,fN HO2 (aA.drew _),HS2,?_⟩;exact fm (fm (fm HGR (eL _ g _ _)) (eL _ g _ _)) ((aA.drew _).grown _)
    case measure=>simp [intOf];omega
  ·have HF:=np (HS.done (by have:=xl.out;omega));rw [HF.out] at HO;go_wp2_with fail;refine bodyPost_end (results_none rfl _ _ _) rfl ⟨rfl,HO,HGR⟩
structure iW (l:List Nat) (i:Nat) (bs:List UInt8):Prop where
 dig:bs.all eB=true
 len:i<l.length->bs.length=9*i
 le:bs.length<=9*i
 val:dv bs=lv (l.take i)
 last:i=l.length->∃ c,bs.getLast?=some c/\c≠48
structure jd (l:List Nat) (i k n:Nat) (bs:List UInt8):Prop where
 dig:bs.all eB=true
 len:bs.length=9*i+k
 val:dv bs+10^bs.length*n=lv (l.take (i+1))
 lt:n<10^(9-k)
 last:i+1=l.length->n=0->∃ c,bs.getLast?=some c/\c≠48
theorem iW.zero (l:List Nat) (h:l≠[]):iW l 0 []:=⟨rfl,fun _=>rfl,by simp,rfl,fun e=>absurd (List.length_eq_zero_iff.1 e.symm) h⟩
theorem iW.enter {l:List Nat} {i x:Nat} {bs:List UInt8} (h:iW l i bs) (hc:bH l) (hx:l[i]?=some x):jd l i 0 x bs:=by
 have hi:=(nt.1 hx).1;refine ⟨h.dig,h.len hi,?_,hc.1.get hx,fun he h0=>?_⟩;·rw [h.val,h.len hi,jt hx,Z4k]
 ·exact absurd h0 (hc.2 x (by rw [<- he,Nat.add_sub_cancel];exact hx))
theorem jd.step {l:List Nat} {i k n:Nat} {bs:List UInt8} {c:UInt8} (h:jd l i k n bs) (hk:k<9) (hn:i+1<l.length\/0<n) (hc:c.toNat=48+n%10):jd l i (k+1) (n / 10) (bs++[c]):=by
 refine ⟨?_,by rw [oJ,h.len];rfl,Z0x hc h.val,?_,fun he h0=>⟨c,by simp,?_⟩⟩
 ·rw [List.all_append,h.dig,Bool.true_and,List.all_cons,List.all_nil,Bool.and_true];exact oH (by omega)
 ·have:=h.lt;rw [show 9-k=(9-(k+1))+1 by omega,Nat.pow_succ] at this;omega
 ·rintro rfl;rw [show (48:UInt8).toNat=48 from rfl] at hc;omega
theorem jd.leave {l:List Nat} {i k n:Nat} {bs:List UInt8} (h:jd l i k n bs) (hk:k<=9) (hi:i<l.length) (hn:k=9\/(¬ i+1<l.length/\n=0)):iW l (i+1) bs:=by
 have h0:n=0:=by
  rcases hn with rfl | ⟨-,h⟩
  ·have:=h.lt;rw [Nat.sub_self,Nat.pow_zero] at this;omega
  ·exact h
 have hv:=h.val;rw [h0,Nat.mul_zero,Nat.add_zero] at hv;exact ⟨h.dig,fun hlt=>by have:=h.len;omega,by have:=h.len;omega,hv,fun he=>h.last he h0⟩
theorem iW.done {l:List Nat} {bs:List UInt8} (h:iW l l.length bs):bs.reverse=(aE (lv l)).data.toList:=by
 obtain ⟨c,hc,FG⟩:=h.last rfl;have hne:bs≠[]:=by rintro rfl;simp at hc
 have h1:=Z07 (l:=bs.reverse) (by rw [List.all_reverse];exact h.dig) (by simpa using hne) (.inl (by rw [List.head?_reverse,hc];simpa using FG));rw [h1,s6_,h.val,List.take_length,jT]
theorem mH (l:List Nat) (v:Value) (w:World) (h:cn w v l) (hc:bH l) (hlen:l.length<=10000000000) :
  oL 159 #[v] w (.string (aE (lv l))):=by
 obtain ⟨a,cap,rfl,hl,sw,hcell⟩:=h.open;have HX:=np hcell;have HC:=np hc;clear h hcell hc;by_cases hn:l=[]
 ·subst hn;have HF:Hid (aE (lv [])=⟨#[48]⟩):=by unfold Hid aE;rw [eF,Lib.decDigits_one (by omega)];rfl
  rw [HF.out]
  go_enter func159,ntmps159
  go_wp2_with fail;go_ret;exact ⟨rfl,aA.refl _⟩
 ·obtain ⟨b,off,rfl,hb,hcell⟩:=HX hn;have HCELL:=np hcell;have hpos:0<l.length:=List.length_pos_iff.2 hn;have Hm:((l.length:Int) == 0)=false:=by rw [beq_eq_false_iff_ne];omega
  have HN:=np hn;obtain ⟨c9,Kd⟩:∃ c9:Nat,(9*(l.length:Int))=(c9:Int):=⟨9*l.length,by omega⟩;have FF:c9<=90000000000:=by omega
  obtain ⟨i0,hi,oy,hz1,hz2⟩:=info_parts Z4e;have HI:=np hi;have HZ0:=np oy;have HZ1:=np hz1;have HZ2:=np hz2;clear hi oy hz1 hz2 HX hcell hn
  go_enter func159,ntmps159
  go_wp2_with (at_make;refine wpList_make_own _ rfl _ _ 107 rfl w.heap.size 5 i0 (.int .u8 0) 1 underlying107 HI HZ0 HZ1 _ _ _ c9 rfl rfl rfl ?c1 ?c2 ?c3 ?_)
  case c1=>rw [HZ2.out];omega
  case c2=>unfold maxLen;omega
  case c3=>exact n9 _
  intro w1 hown oV;have HB0:Hid (aj w1 w.heap.size 5 1 (.slice (some ⟨w.heap.size,0,none⟩) 0 c9) jk []):=⟨[],rfl,by simp,by simpa using hown,by simp⟩;have hE1:=jI oV;have HS0:=np (iW.zero l HN);clear hown oV Kd FF;go_wp2_with fail
  go_loopw [3,16] (fun out t wr=>∃ (i:Nat) (bs:List UInt8),i<=l.length/\t=.int .i64 i/\aA w wr/\Hid (aj wr w.heap.size 5 1 out jk bs)/\Hid (iW l i bs)) (fun _ t _=>l.length-(intOf t).toNat)
  case atStart=>exact ⟨0,[],by omega,rfl,hE1,HB0,HS0⟩
  case round =>
   obtain ⟨i,bs,hi,rfl,s8,HB,HS⟩:=hrel;obtain ⟨wo,rfl⟩:∃ wo:World,wo=wr:=⟨_,rfl⟩;clear HB0 HS0;by_cases hlt:i<l.length
   ·obtain ⟨x,hx⟩:∃ x,l[i]?=some x:=⟨_,ns hlt⟩;have g1:=s8.cell (HCELL i x hx);have hxb:=HC.1.get hx;have HK0:=np (HS.enter HC hx);clear hx;go_wp2_with fail
    go_loopw [3,6,5] (fun out t n wr=>∃ (k m:Nat) (bs:List UInt8),k<=9/\t=.int .i64 k/\n=.int .u64 m/\m<1000000000/\aA w wr/\Hid (aj wr w.heap.size 5 1 out jk bs)/\Hid (jd l i k m bs)) (fun _ t _ _=>9-(intOf t).toNat)
    case atStart=>exact ⟨0,x,bs,by omega,rfl,rfl,hxb,s8,HB,HK0⟩
    case round =>
     obtain ⟨k,m,bs',hk,rfl,rfl,hm,yM,HBi,yR⟩:=hrel;obtain ⟨wi,rfl⟩:∃ wi:World,wi=wr:=⟨_,rfl⟩;clear g1;by_cases xV:k<9/\(i+1<l.length\/0<m)
     ·obtain ⟨hk9,xV⟩:=xV;obtain ⟨d,hd⟩:=oN (m%10);obtain ⟨q,hq⟩:=oN (m / 10);have su:(m:Int)%10=(d:Int):=(by omega);have Cq:(m:Int) / 10=(q:Int):=(by omega);have ML:d<=9:=(by omega);have zq:q<1000000000:=(by omega);obtain ⟨ch,tj⟩:∃ ch:UInt8,ch.toNat=48+d:=⟨UInt8.ofNat (48+d),by rw [UInt8.toNat_ofNat'];omega⟩;have HK2:Hid (jd l i (k+1) q (bs'++[ch])):=by
       unfold Hid;rw [<- hq];exact yR.step hk9 xV (by rw [tj,hd])
      have hsz:w.heap.size<=wi.heap.size:=yM.size;have HLL:Hid (bs'.length<100000000000):=(by have:=yR.len;unfold Hid;omega);have HRR:Hid (∀ x:World,jk x [Value.int .u8 (48+(d:Int))] ch):=fun _=>by unfold jk mc;rw [tj];rfl
      clear hd hq tj;have El:i+1<l.length\/(¬ i+1<l.length/\0<m):=(by omega);clear xV;rcases El with rB | ⟨rB,ET⟩
      all_goals
       go_wp2_with (at_builtin;go_must (refine Z0_ _ rfl _ _ 107 rfl w.heap.size 5 (.int .u8 0) 1 1 underlying107 Z4e rfl (by decide) u3 jk bs' ch #[.int .u8 (48+d)] 5 rfl HBi rfl rfl ?_ (fun x _=>HRR x) HLL (by decide) hsz ?_))
       all_goals first | (simp [Value.oneCell'];done) | skip
       intro v' w5 ow qM hb5 hs5 _;have HB5:=np ow;have HX5:=np (Below.trans yM hb5);clear ow qM hb5;go_wp2_with fail;go_roundw
       case rel=>exact ⟨k+1,q,_,by omega,by go_num,rfl,zq,HX5,HB5,HK2⟩
       case measure=>simp [intOf];omega
     ·have J8:k=9\/(k<9/\¬ i+1<l.length/\m=0):=(by omega);have HS2:Hid (iW l (i+1) bs'):=yR.leave hk hlt (by omega);clear xV;rcases J8 with rfl | ⟨hk9,rB,rfl⟩
      all_goals
       go_wp2_with fail;go_roundw
       case rel=>exact ⟨i+1,bs',by omega,by go_num,yM,HBi,HS2⟩
       case measure=>simp [intOf];omega
   ·obtain rfl:l.length=i:=(by omega);have hsh:=HB.out;have HDONE:=np (HS.done);obtain ⟨c,hc,-⟩:=HS.last rfl;have rN:0<bs.length:=(by cases bs with | nil=>simp at hc | cons _ _=>simp);have HLE:Hid (bs.length<=90000000000):=(by have:=HS.le;unfold Hid;omega);have hown:=HB.ownB;obtain ⟨g,capb,rfl,hg1,z8,rK,tK⟩:=ei hown rN;have HREV:=np (j8_ w.heap.size bs _ wo hown);unfold maxLen at tK;have hcv:∀ w',eS w.heap.size w' (.slice (some ⟨g,0,none⟩) bs.length capb) bs.reverse->(convert 107 92 (.slice (some ⟨g,0,none⟩) bs.length capb)).run prog w'=.ok (.string (aE (lv l))) w':=by
     intro w' ho;have e:aE (lv l)=⟨bs.reverse.toArray⟩:=by
      have h1:=HDONE.out;generalize aE (lv l)=nb at *
      cases nb with | mk d=>simp only at h1;rw [h1]
     rw [e]
     have:=run_convert_bytes_back w' 107 92 5 ⟨g,0,none⟩ capb bs.reverse underlying107 underlying5 underlying92 (by
      intro j hj;have hx:=(ho.get (k:=j) (x:=bs.reverse[j]) (ns hj)).1;rw [show (⟨g,0,none⟩:Addr).add j=⟨g,j,none⟩ by unfold Addr.add;split <;> simp_all]
      exact hx)
     rw [List.length_reverse] at this;exact this
    have HCV:=np hcv;clear hc hsh hown hcv rN;go_wp2_with fail;refine HREV.mono ?_;rintro e w5 ⟨rfl,BA,qM⟩;have hcv:=HCV _ BA;have HX5:Hid (aA w w5):=Below.trans s8 ⟨qM.os,qM.tape,qM.output,qM.size,fun k hk=>qM.block k (n7 hk s8.size) (by simp only [Value.ownBlock];intro e;cases e;omega)⟩;clear BA qM HREV HCV;go_wp2_with fail;go_ret;exact ⟨rfl,HX5⟩
theorem O8_ (p q:List Nat) (u v:Value) (w:World) (hu:cn w u p) (hv:cn w v q) (hp:bH p) (hq:bH q) (xR:p.length<=10000000000) (tJ:q.length<=10000000000) :
  oL 285 #[u,v] w (.int .i64 (cW (lv p) (lv q))):=by
 obtain ⟨a,ca,rfl,BK,zC,sK⟩:=hu.open;obtain ⟨b,cb,rfl,hlb,AD,hcv⟩:=hv.open;have HP:=np hp;have HQ:=np hq;have HU:=np sK;have HV:=np hcv;clear hu hv sK hcv hp hq;by_cases hl:p.length=q.length
 ·have sE:((p.length:Int) != (q.length:Int))=false:=by simp [hl]
  have HL:=np hl;have Jx:p.length<=q.length:=by omega
  have Jw:q.length<=p.length:=by omega
  clear hl
  go_enter func285,ntmps285
  go_wp2_with fail
  go_loopw [5] (fun i wr=>∃ y:Int,i=.int .i64 y/\y<p.length/\-2<y/\Hid (∃ k:Nat,y+1=k/\k<=p.length/\p.drop k=q.drop k)/\aA w wr) (fun i _=>(intOf i+1).toNat)
  case atStart=>exact ⟨_,rfl,by omega,by omega,⟨p.length,by omega,n9 _,by rw [List.drop_length,HL.out,List.drop_length]⟩,aA.refl _⟩
  case round =>
   obtain ⟨y,rfl,tT,rF,HK,hE⟩:=hrel;obtain ⟨wo,rfl⟩:∃ wo:World,wo=wr:=⟨_,rfl⟩;by_cases h0:0<=y
   ·obtain ⟨k,rfl⟩:∃ k:Nat,y=k:=⟨y.toNat,by omega⟩;have Eb:k<p.length:=(by omega);have Ea:k<q.length:=(by omega);obtain ⟨x,hx⟩:∃ x,p[k]?=some x:=⟨_,ns Eb⟩;obtain ⟨z,hz⟩:∃ z,q[k]?=some z:=⟨_,ns Ea⟩;obtain ⟨ba,oa,rfl,-,sN⟩:=HU (by rintro rfl;simp at Eb);obtain ⟨bb,ob,rfl,-,v7⟩:=HV (by rintro rfl;simp at Ea);have g1:=hE.cell (sN k x hx);have g2:=hE.cell (v7 k z hz);have HD:Hid (p.drop (k+1)=q.drop (k+1)):=by
     obtain ⟨k',e,-,h⟩:=HK.out;have:k'=k+1:=(by omega);rw [this] at h;exact h
    have HX:=np hx;have HZ:=np hz;clear hx hz sN v7;rcases Nat.lt_trichotomy x z with yd | yd | yd
    ·have hb:decide (x<z)=true:=oH (by omega);have HR:=np (y5_ (Z4i HP.1 HQ.1 HX HZ HD yd));clear yd;go_wp2_with fail
     go_quiet (fail)
     go_wp2_with fail;go_ret;rw [HR.out];exact ⟨rfl,aA.draws hE _⟩
    ·subst yd;have hb:decide (x<x)=false:=oG (by omega);have HK2:Hid (∃ k':Nat,((k:Int)-1)+1=k'/\k'<=p.length/\p.drop k'=q.drop k'):=by
      refine ⟨k,by omega,by omega,?_⟩;show p.drop k=q.drop k;rw [List.drop_eq_getElem_cons Eb,List.drop_eq_getElem_cons Ea,HD.out];congr 1;have h1:=(nt.1 HX).2;have h2:=(nt.1 HZ).2;rw [h1,h2]
     go_wp2_with fail
     go_quiet (fail)
     go_wp2_with fail
     go_quiet (fail)
     go_wp2_with fail;go_roundw
     case rel=>exact ⟨_,rfl,by omega,by omega,HK2,by first | exact aA.draws (aA.draws hE _) _ | exact aA.draws hE _⟩
     case measure=>simp [intOf]
    ·have hb:decide (x<z)=false:=oG (by omega);have oY:decide (z<x)=true:=oH (by omega);have HR:=np (Z0P (Z4i HQ.1 HP.1 HZ HX HD.symm yd));clear yd;go_wp2_with fail
     go_quiet (fail)
     go_wp2_with fail
     go_quiet (fail)
     go_wp2_with fail;go_ret;rw [HR.out];exact ⟨rfl,by first | exact aA.draws (aA.draws hE _) _ | exact aA.draws hE _⟩
   ·have HR:Hid (cW (lv p) (lv q)=0):=by
     obtain ⟨k,e,-,h⟩:=HK.out;have:k=0:=(by omega);subst this;rw [List.drop_zero,List.drop_zero] at h;exact Z4D (by rw [h])
    go_wp2_with fail;go_ret;rw [HR.out];exact ⟨rfl,hE⟩
 ·have sE:((p.length:Int) != (q.length:Int))=true:=by simp;omega
  rcases Nat.lt_or_gt_of_ne hl with h | h
  ·have HR:=np (y5_ (bH.lt_of_length HP.1 HQ h));have HM:Hid (min 1 (max (-1) ((p.length:Int)-(q.length:Int)))=-1):=(by unfold Hid;omega);rw [HR.out];clear HR hl
   go_enter func285,ntmps285
   go_wp2_with fail;go_ret;exact ⟨rfl,aA.refl _⟩
  ·have HR:=np (Z0P (bH.lt_of_length HQ.1 HP h));have HM:Hid (min 1 (max (-1) ((p.length:Int)-(q.length:Int)))=1):=(by unfold Hid;omega);rw [HR.out];clear HR hl
   go_enter func285,ntmps285
   go_wp2_with fail;go_ret;exact ⟨rfl,aA.refl _⟩
structure jf (p q:List Nat) (i:Nat) (L:List Nat):Prop where
 len:L.length=p.length+q.length
 pcs:aO L
 val:lv L=lv (p.take i)*lv q
 zero:∀ j,i+q.length<=j->j<L.length->L[j]?=some 0
structure je (p q:List Nat) (i x k c:Nat) (L:List Nat):Prop where
 len:L.length=p.length+q.length
 pcs:aO L
 lt:c<1000000000
 val:lv L+c*pB (i+k)=lv (p.take i)*lv q+x*(lv (q.take k)*pB i)
 zero:∀ j,i+q.length<=j->j<L.length->L[j]?=some 0
theorem jf.start (p q:List Nat):jf p q 0 (List.replicate (p.length+q.length) 0) :=
 ⟨by simp,aO.zeros _,by rw [w2_,List.take_zero,eF,Nat.zero_mul],fun j _ h=>by rw [List.getElem?_replicate,if_pos (by simpa using h)]⟩
theorem jf.enter {p q L:List Nat} {i:Nat} (x:Nat) (h:jf p q i L):je p q i x 0 0 L :=
 ⟨h.len,h.pcs,by omega,by rw [h.val,List.take_zero,eF];simp,h.zero⟩
theorem je.step {p q L:List Nat} {i x k c a b y c':Nat} (h:je p q i x k c L) (hk:q[k]?=some b) (ha:L[i+k]?=some a) (hx:x<1000000000) (hc:c'=c+a+x*b) (o8:c' / 1000000000<1000000000) (hy:y=c'%1000000000) :
  je p q i x (k+1) (c' / 1000000000) (L.set (i+k) y):=by
 have hkl:=(nt.1 hk).1;refine ⟨by rw [List.length_set];exact h.len,h.pcs.set _ _ (by omega),o8,?_,fun j hj vk=>?_⟩
 ·have:=T3_ (P:=pB (i+k)) (P':=pB (i+k+1)) (c:=c) (x:=a) (y:=y) (ab:=x*b) (acc2:=x*(lv (q.take (k+1))*pB i)) (ek _) h.val hc hy (nM y ha) (by
   rw [jt hk,lx];grind)
  exact this
 ·rw [oK,if_neg (by omega)];exact h.zero j hj (by simpa using vk)
theorem je.leave {p q L:List Nat} {i x c:Nat} (h:je p q i x q.length c L) (hx:p[i]?=some x):jf p q (i+1) (L.set (i+q.length) c)/\L[i+q.length]?=some 0:=by
 have hi:=(nt.1 hx).1;have h0:=h.zero (i+q.length) (n9 _) (by rw [h.len];omega);refine ⟨⟨by rw [List.length_set];exact h.len,h.pcs.set _ _ h.lt,?_,fun j hj vk=>?_⟩,h0⟩
 ·have h1:=nM c h0;have h2:=h.val;rw [List.take_length] at h2;rw [jt hx];have:(lv (p.take i)+pB i*x)*lv q=lv (p.take i)*lv q+x*(lv q*pB i):=by grind
  have:c*pB (i+q.length)=pB (i+q.length)*c:=Nat.mul_comm _ _;omega
 ·rw [oK,if_neg (by omega)];exact h.zero j (by omega) (by simpa using vk)
theorem q8_ {a b:Nat} (ha:a<1000000000) (hb:b<1000000000):a*b<=999999998000000001:=by
 have:a*b<=999999999*999999999:=Nat.mul_le_mul (by omega) (by omega);omega
theorem n8_ (p q:List Nat) (u v:Value) (w:World) (hu:cn w u p) (hv:cn w v q) (hp:aO p) (hq:aO q) (xR:p.length<=5000000000) (tJ:q.length<=5000000000) :
  Calls prog 239 #[u,v] w fun e w'=>∃ r l,e=.returned r/\Hid (aS w.heap.size w' r l/\bH l/\lv l=lv p*lv q/\l.length<=p.length+q.length)/\aA w w':=by
 obtain ⟨a,ca,rfl,BK,zC,sK⟩:=hu.open;obtain ⟨b,cb,rfl,hlb,AD,hcv⟩:=hv.open;have HP:=np hp;have HQ:=np hq;have HU:=np sK;have HV:=np hcv;obtain ⟨i0,hi,oy,hz1,hz2⟩:=info_parts jL;have HI:=np hi;have HZ0:=np oy;have HZ1:=np hz1;have HZ2:=np hz2;obtain ⟨n,hn⟩:∃ n:Nat,n=p.length+q.length:=⟨_,rfl⟩;have xP:(p.length:Int)+(q.length:Int)=(n:Int):=by omega
 have L2:n<=10000000000:=by omega
 have hnp:p.length<=n:=by omega
 have HN:=np hn;clear hi oy hz1 hz2 hu hv sK hcv hp hq hn
 go_enter func239,ntmps239
 go_wp2_with (at_make;refine wpList_make_full _ rfl _ _ 202 rfl w.heap.size 197 i0 (.int .u64 0) 1 underlying202 HI HZ0 HZ1 _ _ _ _ n rfl rfl rfl rfl ?c1 ?c2 ?c3 ?_)
 case c1=>rw [HZ2.out];omega
 case c2=>unfold maxLen;omega
 case c3=>exact n9 _
 intro w1 hown oV;have hE1:=jI oV;have HO0:=np (aS.made hown);have HS0:Hid (jf p q 0 (List.replicate n 0)):=by unfold Hid;rw [HN.out];exact jf.start p q
 clear hown oV;go_wp2_with fail
 go_loopw [19] (fun t wr=>∃ (i:Nat) (L:List Nat),i<=p.length/\t=.int .i64 i/\aA w wr/\Hid (aS w.heap.size wr (.slice (some ⟨w.heap.size,0,none⟩) n n) L)/\Hid (jf p q i L)) (fun t _=>p.length-(intOf t).toNat)
 case atStart=>exact ⟨0,_,by omega,rfl,hE1,HO0,HS0⟩
 case round =>
  obtain ⟨i,L,hi,rfl,s8,HO,HS⟩:=hrel;obtain ⟨wo,rfl⟩:∃ wo:World,wo=wr:=⟨_,rfl⟩;clear HO0 HS0;by_cases hlt:i<p.length
  ·obtain ⟨x,hx⟩:∃ x,p[i]?=some x:=⟨_,ns hlt⟩;obtain ⟨ba,oa,rfl,-,sN⟩:=HU (by rintro rfl;simp at hlt);have g1:=s8.cell (sN i x hx);have hxb:=HP.get hx;have HX:=np hx;have HK0:=np (HS.enter x);clear hx sN;go_wp2_with fail;clear g1
   go_loopw [26,8] (fun t c wr=>∃ (k cc:Nat) (L:List Nat),k<=q.length/\t=.int .i64 k/\c=.int .u64 cc/\cc<1000000000/\aA w wr/\Hid (aS w.heap.size wr (.slice (some ⟨w.heap.size,0,none⟩) n n) L)/\Hid (je p q i x k cc L)) (fun t _ _=>q.length-(intOf t).toNat)
   case atStart=>exact ⟨0,0,L,by omega,rfl,rfl,by omega,s8,HO,HK0⟩
   case round =>
    obtain ⟨k,cc,L',hk,rfl,rfl,qO,yM,DQ,yR⟩:=hrel;obtain ⟨wi,rfl⟩:∃ wi:World,wi=wr:=⟨_,rfl⟩;have KP:i+q.length<n:=(by have:=HN.out;omega);have Kx:Hid (L'.length=n):=(by unfold Hid;rw [yR.out.len,HN.out]);by_cases hkl:k<q.length
    ·obtain ⟨z,hz⟩:∃ z,q[k]?=some z:=⟨_,ns hkl⟩;obtain ⟨bb,ob,rfl,-,v7⟩:=HV (by rintro rfl;simp at hkl);have g2:=yM.cell (v7 k z hz);obtain ⟨y,hy⟩:∃ y,L'[i+k]?=some y:=⟨_,ns (by have:=Kx.out;omega)⟩;obtain ⟨g3,f3⟩:=DQ.get hy;have hyb:=yR.pcs.get hy;have hzb:=HQ.get hz;have hm:=q8_ hxb hzb;obtain ⟨m,hmm⟩:=oN (x*z);rw [hmm] at hm;have xQ:(x:Int)*(z:Int)=(m:Int):=(by rw [<- hmm];exact (Int.natCast_mul _ _).symm);obtain ⟨c',rM⟩:=oO (cc+y+m);have yI:(cc:Int)+((y:Int)+(m:Int))=(c':Int):=(by omega);obtain ⟨r,hr⟩:=oO (c'%1000000000);obtain ⟨d,hd⟩:=oO (c' / 1000000000);have qY:(c':Int)%1000000000=(r:Int):=(by omega);have su:(c':Int) / 1000000000=(d:Int):=(by omega);have vv:d<1000000000:=(by omega);have FC:c'<1000000000000000000:=(by omega);have At:r<1000000000:=(by omega);have HK2:Hid (je p q i x (k+1) d (L'.set (i+k) r)):=by
      unfold Hid;rw [hd];exact yR.step hz hy hxb (by rw [rM,hmm]) (by omega) hr
     have HO2:=np (DQ.set (i+k) r);have ru:i+k<n:=(by omega);have Am:w.heap.size<=wi.heap.size:=yM.size;clear hz hy v7 hmm rM hr hd;go_wp2_with fail;go_roundw
     case rel=>exact ⟨k+1,d,_,by omega,by go_num,rfl,vv,Below.setCell yM (p:=⟨w.heap.size,i+k,none⟩) (n9 _) _,HO2,HK2⟩
     case measure=>simp [intOf];omega
    ·obtain rfl:q.length=k:=(by omega);have hend:=yR.leave HX;obtain ⟨g3,f3⟩:=DQ.get hend.2;have HS2:=np hend.1;have HO2:=np (DQ.set (i+q.length) cc);clear hend;go_wp2_with fail;go_roundw
     case rel=>exact ⟨i+1,_,by omega,by go_num,Below.setCell yM (p:=⟨w.heap.size,i+q.length,none⟩) (n9 _) _,HO2,HS2⟩
     case measure=>simp [intOf];omega
  ·obtain rfl:p.length=i:=(by omega);have HT:=np (j9 w.heap.size L _ wo HO HS.pcs);have HV:=HS.val;rw [List.take_length] at HV;have HV:=np HV;have HL:=np HS.len;go_wp2_with fail;refine HT.mono ?_;rintro e w5 ⟨r,l,rfl,hr,kk,rfl⟩;have HR:=np hr;clear hr HT;go_wp2_with fail;go_ret;exact ⟨r,l,rfl,⟨HR.out.out.1,HR.out.out.2.1,HR.out.out.2.2.1.trans HV,by rw [<- HL.out];exact HR.out.out.2.2.2⟩,aA.draws s8 _⟩
theorem A2_ (p:List Nat) (n:Nat) (u:Value) (w:World) (hu:cn w u p) (hp:aO p) (hn:n<1000000000) (zt:0<n) (xR:p.length<=5000000000) :
  Calls prog 340 #[u,.int .u64 n] w fun e w'=>∃ r l,e=.returned r/\Hid (aS w.heap.size w' r l/\bH l/\lv l=lv p*n/\l.length<=p.length+1)/\aA w w':=by
 have HU:=np hu;have HP:=np hp;have HO:Hid (aS w.heap.size (w.alloc (.cells #[.int .u64 n] 197)) (.slice (some ⟨w.heap.size,0,none⟩) 1 1) [n]):=by
  have:=World.ownsRow_lit (e:=197) (size:=1) w #[Value.int .u64 n] 1 (n9 _) (by unfold maxLen;omega) rfl;exact this
 have LP:Hid (aO [n]):=aO.cons hn aO.nil;have HT:=np (j9 w.heap.size [n] _ _ HO LP);clear hu hp
 go_enter func340,ntmps340
 go_wp2_with fail;refine HT.mono ?_;rintro e w1 ⟨r,l,rfl,hr,kk,rfl⟩;have HR:=np hr;have HE1:Hid (aA w ((w.alloc (.cells #[.int .u64 n] 197)).drewN kk)):=aA.draws (aA.alloc _ _) _;have HM:=np (n8_ p l u r _ (cn.ext HU HE1) HR.out.out.1.at HP HR.out.out.2.1.1 xR (by have:=HR.out.out.2.2.2;simp at this;omega));clear hr HT;go_wp2_with fail;refine HM.mono ?_;rintro e w2 ⟨r2,l2,rfl,pF,hE2⟩;have HR2:=np pF;have HE2:=np (aA.trans HE1 hE2);clear pF hE2 HM;go_wp2_with fail;go_ret;refine ⟨r2,l2,rfl,⟨HR2.out.out.1.base HE1.size,HR2.out.out.2.1,?_,?_⟩,HE2⟩;·rw [HR2.out.out.2.2.1,HR.out.out.2.2.1,fI,eF,Nat.mul_zero,Nat.add_zero]
 ·have h1:=HR2.out.out.2.2.2;have h2:=HR.out.out.2.2.2;simp at h2;omega
structure gn (p:List Nat) (n k rest:Nat) (L:List Nat):Prop where
 len:L.length=p.length
 pcs:aO L
 lt:rest<n
 val:lv (p.drop k)=n*lv (L.drop k)+rest
theorem gn.start (p:List Nat) {n:Nat} (hn:0<n):gn p n p.length 0 (List.replicate p.length 0) :=
 ⟨by simp,aO.zeros _,hn,by rw [List.drop_length,List.drop_eq_nil_of_le (by simp),eF];simp⟩
theorem gn.step {p L:List Nat} {n k rest x:Nat} (h:gn p n (k+1) rest L) (hp:aO p) (hx:p[k]?=some x) (hn:0<n) :
  gn p n k ((rest*1000000000+x)%n) (L.set k ((rest*1000000000+x) / n)):=by
 have hk:=(nt.1 hx).1;refine ⟨by rw [List.length_set];exact h.len,h.pcs.set _ _ (d4_ h.lt (hp.get hx)),Nat.mod_lt _ hn,?_⟩;have e:lv ((L.set k ((rest*1000000000+x) / n)).drop k)=(rest*1000000000+x) / n+1000000000*lv (L.drop (k+1)):=by
  rw [fJ (k:=k) (x:=(rest*1000000000+x) / n) (by rw [oK,if_pos rfl,if_pos (by rw [h.len];exact hk)])];rw [List.drop_set_of_lt (by omega)]
 rw [e];exact i4_ h.val (fJ hx) hn
theorem n1_ (p:List Nat) (n:Nat) (u:Value) (w:World) (hu:cn w u p) (hp:aO p) (hn:n<1000000000) (zt:0<n) (xR:p.length<=10000000000) :
  Calls prog 286 #[u,.int .u64 n] w fun e w'=>∃ r l,e=.returned (.tuple #[r,.int .u64 ((lv p%n:Nat):Int)])/\Hid (aS w.heap.size w' r l/\bH l/\lv l=lv p / n/\l.length<=p.length)/\aA w w':=by
 obtain ⟨a,ca,rfl,BK,zC,sK⟩:=hu.open;have HP:=np hp;have HU:=np sK;obtain ⟨i0,hi,oy,hz1,hz2⟩:=info_parts jL;have HI:=np hi;have HZ0:=np oy;have HZ1:=np hz1;have HZ2:=np hz2;have HS0:=np (gn.start p zt);have Hm:((n:Int) == 0)=false:=by rw [beq_eq_false_iff_ne];omega
 have J3:¬ (n:Int)=0:=by omega
 clear hi oy hz1 hz2 hu sK hp
 go_enter func286,ntmps286
 go_wp2_with (at_make;refine wpList_make_full _ rfl _ _ 202 rfl w.heap.size 197 i0 (.int .u64 0) 1 underlying202 HI HZ0 HZ1 _ _ _ _ p.length rfl rfl rfl rfl ?c1 ?c2 ?c3 ?_)
 case c1=>rw [HZ2.out];omega
 case c2=>unfold maxLen;omega
 case c3=>exact n9 _
 intro w1 hown oV;have hE1:=jI oV;have HO0:=np (aS.made hown);clear hown oV;go_wp2_with fail
 go_loopw [7,8] (fun r t wr=>∃ (rr:Nat) (y:Int) (L:List Nat),r=.int .u64 rr/\t=.int .i64 y/\rr<n/\y<p.length/\-2<y/\aA w wr/\Hid (aS w.heap.size wr (.slice (some ⟨w.heap.size,0,none⟩) p.length p.length) L)/\Hid (∃ k:Nat,y+1=k/\gn p n k rr L)) (fun _ t _=>(intOf t+1).toNat)
 case atStart=>exact ⟨0,_,_,rfl,rfl,zt,by omega,by omega,hE1,HO0,⟨p.length,by omega,HS0⟩⟩
 case round =>
  obtain ⟨rr,y,L,rfl,rfl,qX,tT,rF,s8,HO,HS⟩:=hrel;obtain ⟨wo,rfl⟩:∃ wo:World,wo=wr:=⟨_,rfl⟩;clear HO0 HS0;by_cases hlt:0<=y
  ·obtain ⟨j,rfl⟩:∃ j:Nat,y=j:=⟨y.toNat,by omega⟩;have Cx:j<p.length:=(by omega);obtain ⟨x,hx⟩:∃ x,p[j]?=some x:=⟨_,ns Cx⟩;obtain ⟨ba,oa,rfl,-,sN⟩:=HU (by rintro rfl;simp at Cx);have g1:=s8.cell (sN j x hx);have hxb:=HP.get hx;have HSJ:Hid (gn p n (j+1) rr L):=by
    obtain ⟨k,e,h⟩:=HS.out;have:k=j+1:=(by omega);rw [this] at h;exact h
   obtain ⟨z,hz⟩:∃ z,L[j]?=some z:=⟨_,ns (by rw [HSJ.out.len];exact Cx)⟩;obtain ⟨g3,f3⟩:=HO.get hz;obtain ⟨t,ht⟩:=oO (rr*1000000000+x);have Dx:(rr:Int)*1000000000+(x:Int)=(t:Int):=(by omega);have htb:t<1000000000000000000:=(by omega);obtain ⟨q,hq⟩:=oO (t / n);obtain ⟨m,hm⟩:=oO (t%n);have Cq:(t:Int) / (n:Int)=(q:Int):=(by rw [hq];exact (Int.natCast_ediv _ _).symm);have xQ:(t:Int)%(n:Int)=(m:Int):=(by rw [hm];exact (Int.natCast_emod _ _).symm);have Jv:(t:Int).tdiv (n:Int)=(q:Int):=(by rw [Int.tdiv_eq_ediv_of_nonneg (by omega),Cq]);have EP:(t:Int).tmod (n:Int)=(m:Int):=(by rw [Int.tmod_eq_emod_of_nonneg (by omega),xQ]);have J6:m<n:=(by rw [hm];exact Nat.mod_lt _ zt);have HS2:Hid (gn p n j m (L.set j q)):=by
    unfold Hid;rw [hq,hm,ht];exact HSJ.step HP hx zt
   have zq:q<1000000000:=(by rw [hq,ht];exact d4_ qX hxb);have HO2:=np (HO.set j q);have LX:Hid (∃ k:Nat,((j:Int)-1)+1=k/\gn p n k m (L.set j q)):=⟨j,by omega,HS2⟩;clear hx sN hz ht hq hm;go_wp2_with fail;go_roundw
   case rel=>exact ⟨m,_,_,rfl,rfl,J6,by omega,by omega,Below.setCell s8 (p:=⟨w.heap.size,j,none⟩) (n9 _) _,HO2,LX⟩
   case measure=>simp [intOf]
  ·have HSZ:Hid (gn p n 0 rr L):=by
    obtain ⟨k,e,h⟩:=HS.out;have:k=0:=(by omega);rw [this] at h;exact h
   have hv:=HSZ.val;rw [List.drop_zero,List.drop_zero] at hv;have HQ:Hid (lv L=lv p / n/\rr=lv p%n):=by
    unfold Hid;rw [hv,Nat.mul_add_div zt,Nat.mul_add_mod,Nat.div_eq_of_lt qX,Nat.mod_eq_of_lt qX];omega
   have HT:=np (j9 w.heap.size L _ wo HO HSZ.pcs);clear hv;go_wp2_with fail;refine HT.mono ?_;rintro e w5 ⟨r,l,rfl,hr,kk,rfl⟩;have HR:=np hr;clear hr HT;go_wp2_with fail;go_ret2;exact ⟨r,l,by rw [<- HQ.out.2];rfl,⟨HR.out.out.1,HR.out.out.2.1,HR.out.out.2.2.1.trans HQ.1,by rw [<- HSZ.out.len];exact HR.out.out.2.2.2⟩,aA.draws s8 _⟩
end Go.Proofs.YtoonaddcfakamaaGreatDoor
