import Derived.Test.YtjlkkofmojgipaaGreatDoorPAB
import Derived.Test.YtjlkkofmojgipaaGreatDoorPAA
import Derived.WalkSmall
import Derived.IntWalk
import Derived.OwnWalk
import Derived.Lib.ConvBytes
import Derived.RegionTactic
import Derived.ChangeAlike
namespace Go.Proofs.YtjlkkofmojgipaaGreatDoor
set_option linter.unusedVariables false
set_option linter.unusedSimpArgs false
open Go.RowKit
theorem infoU64:(Tryz.prog.info? 204).map (fun i=>(i.zero,i.size,i.bytes))=some (some (.int .u64 0),1,8):=by kernel_rfl
theorem infoU8:(Tryz.prog.info? 5).map (fun i=>(i.zero,i.size,i.bytes))=some (some (.int .u8 0),1,1):=by kernel_rfl
def pcV (x:Nat):Value:=.int .u64 x
def OwnP (B:Nat) (w:World) (v:Value) (l:List Nat):Prop:=w.ownsRow B 204 1 v l.length (l.map pcV)
def pcR (_:World) (u:List Value) (x:Nat):Prop:=u=[pcV x]
theorem pcR.mono:Mono pcR:=fun _ _ _ _ _ h=>h
abbrev PcsAt (w:World) (v:Value) (l:List Nat):Prop:=ListAt 1 pcR w v l
theorem PcsAt.ext {w w':World} {v:Value} {l:List Nat} (h:PcsAt w v l) (he:Ext w w'):PcsAt w' v l:=ListAt.ext pcR.mono h he
theorem OwnP.at {B:Nat} {w:World} {v:Value} {l:List Nat} (h:OwnP B w v l):PcsAt w v l:=by
 refine ⟨l.map fun x=>[pcV x],by simp,by simp,?_,?_⟩
 ·have:=SeqAt.of_owns h
  rwa [flatten_one]
 ·intro j u x hu hx
  simp only [List.getElem?_map,hx,Option.map_some,Option.some.injEq] at hu
  exact hu.symm
theorem OwnP.ext {B:Nat} {w w':World} {v:Value} {l:List Nat} (h:OwnP B w v l) (he:Ext w w'):OwnP B w' v l:=owns_ext h he
theorem OwnP.form {B:Nat} {w:World} {v:Value} {l:List Nat} (h:OwnP B w v l):∃ a cap,v=.slice a l.length cap∧l.length≤cap∧cap≤9223372036854775807∧(l≠[]→∃ g,a=some ⟨g,0,none⟩∧B≤g∧g<w.heap.size):=by
 rcases h.2 with ⟨rfl,hn⟩ | ⟨g,cap,cur,rfl,hb,hg,h1,h2,h3,h4⟩
 ·exact ⟨none,0,by rw [hn],by omega,by omega,fun hne=>absurd (List.length_eq_zero_iff.1 hn) hne⟩
 ·exact ⟨_,cap,rfl,h1,h2,fun _=>⟨g,rfl,hb,(Array.getElem?_eq_some_iff.1 hg).1⟩⟩
theorem OwnP.base {B B':Nat} {w:World} {v:Value} {l:List Nat} (h:OwnP B w v l) (hb:B'≤B):OwnP B' w v l:=by
 refine ⟨h.1,?_⟩
 rcases h.2 with h' | ⟨g,cap,cur,e,hg,rest⟩
 ·exact .inl h'
 ·exact .inr ⟨g,cap,cur,e,Nat.le_trans hb hg,rest⟩
theorem OwnP.nil (B:Nat) (w:World):OwnP B w (.slice none 0 0) []:=World.ownsRow_nil w B 204 1
theorem OwnP.get {B g n cap:Nat} {w:World} {l:List Nat} (h:OwnP B w (.slice (some ⟨g,0,none⟩) n cap) l) {k x:Nat} (hx:l[k]?=some x) :
  w.cell? ⟨g,k,none⟩=some (.int .u64 x)∧w.frozen? ⟨g,k,none⟩=false:=by
 have hk:k<l.length:=(List.getElem?_eq_some_iff.1 hx).1
 have hn:n=l.length:=by
  rcases h.2 with ⟨e,_⟩ | ⟨g',cap',cur,e,_⟩
  ·cases e
  ·simp only [Value.slice.injEq] at e;exact e.2.1
 subst hn
 exact ⟨(World.ownsRow.cellAt h k (by simpa using hk)).trans (by simp [hx,pcV]),World.ownsRow.frozenAt h k⟩
theorem OwnP.set {B g n cap:Nat} {w:World} {l:List Nat} (h:OwnP B w (.slice (some ⟨g,0,none⟩) n cap) l) (k x:Nat) :
  OwnP B (w.setCell ⟨g,k,none⟩ (.int .u64 x)) (.slice (some ⟨g,0,none⟩) n cap) (l.set k x):=by
 have hn:n=l.length:=by
  rcases h.2 with ⟨e,_⟩ | ⟨g',cap',cur,e,_⟩
  ·cases e
  ·simp only [Value.slice.injEq] at e;exact e.2.1
 subst hn
 unfold OwnP at h ⊢
 rw [List.map_set,List.length_set];exact (World.ownsRow.stored h k _).1
theorem OwnP.take {B g n cap:Nat} {w:World} {l:List Nat} (h:OwnP B w (.slice (some ⟨g,0,none⟩) n cap) l) (m:Nat) (hm:m≤l.length) :
  OwnP B w (.slice (some ⟨g,0,none⟩) m cap) (l.take m):=by
 have hl:(l.take m).length=m:=by rw [List.length_take];omega
 refine ⟨by rw [List.length_map,Nat.mul_one],.inr ?_⟩
 rcases h.2 with ⟨e,_⟩ | ⟨g',cap',cur,e,hb,hg,h1,h2,h3,h4⟩
 ·cases e
 ·simp only [Value.slice.injEq,Option.some.injEq,Addr.mk.injEq] at e
  obtain ⟨⟨rfl,-,-⟩,rfl,rfl⟩:=e
  refine ⟨g,cap,cur,by rw [hl],hb,hg,by omega,h2,h3,?_⟩
  rw [Nat.mul_one] at h4 ⊢
  rw [List.map_take,← h4,List.take_take,hl,Nat.min_eq_left (by omega)]
theorem OwnP.len {B g n cap:Nat} {w:World} {l:List Nat} (h:OwnP B w (.slice (some ⟨g,0,none⟩) n cap) l):n=l.length:=by
 rcases h.2 with ⟨e,_⟩ | ⟨g',cap',cur,e,_⟩
 ·cases e
 ·simp only [Value.slice.injEq] at e;exact e.2.1
theorem PcsAt.open {w:World} {v:Value} {l:List Nat} (h:PcsAt w v l) :
  ∃ (a:Option Addr) (cap:Nat),v=.slice a l.length cap∧l.length≤cap∧cap≤9223372036854775807 ∧
   (l≠[]→∃ b off,a=some ⟨b,off,none⟩∧b<w.heap.size∧∀ (j:Nat) x,l[j]?=some x→w.cell? ⟨b,off+j,none⟩=some (.int .u64 x)):=by
 obtain ⟨a,cap,hv,h1,h2,h3,h4⟩:=ListAt.open h
 refine ⟨a,cap,hv,h1,h2,fun hx=>?_⟩
 obtain ⟨b,off,ha,hb,hc⟩:=h4 (by omega) hx
 refine ⟨b,off,ha,hb,fun j x hj=>?_⟩
 obtain ⟨u,_,hr,hcell⟩:=hc j x hj
 have:=hcell 0 (by omega)
 rw [hr] at this
 simpa [pcV] using this
theorem OwnP.made {B n:Nat} {w:World} {v:Value} (h:w.ownsRow B 204 1 v n (madeCells #[.int .u64 0] n).toList):OwnP B w v (List.replicate n 0):=by
 unfold OwnP
 rw [List.length_replicate]
 have e:(madeCells #[Value.int .u64 0] n).toList=(List.replicate n 0).map pcV:=(toList_madeCells_one _ _).trans (by simp [pcV])
 rwa [e] at h
theorem OwnP.build {B:Nat} {w:World} {v:Value} {l:List Nat} (h:OwnP B w v l):Build w B 204 1 v pcR l:=by
 refine ⟨l.map fun x=>[pcV x],by simp,by simp,?_,?_⟩
 ·rw [flatten_one];exact h
 ·intro j u x hu hx w' _
  simp only [List.getElem?_map,hx,Option.map_some,Option.some.injEq] at hu
  exact hu.symm
theorem Build.ownP {B:Nat} {w:World} {v:Value} {l:List Nat} (h:Build w B 204 1 v pcR l):OwnP B w v l:=by
 obtain ⟨us,h1,h2,h3,h4⟩:=h
 have:us=l.map fun x=>[pcV x]:=by
  apply List.ext_getElem?
  intro i
  rw [List.getElem?_map]
  by_cases hi:i<l.length
  ·have hi2:i<us.length:=by omega
   have:=(h4 i us[i] l[i] (by simp [hi2]) (by simp [hi])).now
   simp only [pcR] at this
   simp [hi,hi2,this]
  ·rw [List.getElem?_eq_none (by omega),List.getElem?_eq_none (by omega)];rfl
 rw [this,flatten_one] at h3
 exact h3
set_option maxRecDepth 100000 in
set_option maxHeartbeats 400000 in
theorem trim_any (B:Nat) (l:List Nat) (v:Value) (w:World) (h:OwnP B w v l) (hp:Pcs l) :
  Calls Tryz.prog 171 #[v] w fun e w'=>∃ v' l',e=.returned v'∧Hid (OwnP B w' v' l'∧Can l'∧lv l'=lv l∧l'.length≤l.length)∧∃ k,w'=w.drewN k:=by
 obtain ⟨a,cap,rfl,hl,hc,hg⟩:=h.form
 have HW:=Lib.hid h
 have HP:=Lib.hid hp
 have HG:=Lib.hid hg
 clear h hp hg
 go_enter Tryz.func171,Tryz.ntmps171
 go_wp2_with fail
 go_loopw [0] (fun t wr=>∃ m:Nat,m≤l.length∧t=.slice a m cap∧Hid (lv (l.take m)=lv l)∧∃ k,wr=w.drewN k) (fun t _=>match t with | .slice _ m _=>m | _=>0)
 case atStart=>exact ⟨l.length,Nat.le_refl _,rfl,by unfold Hid;rw [List.take_length],0,rfl⟩
 case round =>
  obtain ⟨m,hm,rfl,HV,k,rfl⟩:=hrel
  by_cases h0:m=0
  ·subst h0
   have HF:Hid (OwnP B w (.slice a 0 cap) []∧Can []∧lv []=lv l∧([]:List Nat).length≤l.length):=by
    refine ⟨?_,Can.nil,HV.out,Nat.zero_le _⟩
    by_cases hn:l=[]
    ·subst hn;exact HW.out
    ·obtain ⟨g,rfl,-,-⟩:=HG.out hn
     exact HW.out.take 0 (Nat.zero_le _)
   go_wp2_with fail
   go_ret
   exact ⟨_,[],rfl,HF,k,rfl⟩
  ·have hne:l≠[]:=by rintro rfl;simp at hm;omega
   obtain ⟨g,rfl,hg1,hg2⟩:=HG.out hne
   obtain ⟨x,hx⟩:∃ x,l[m-1]?=some x:=⟨_,List.getElem?_eq_getElem (by omega)⟩
   obtain ⟨hcell,-⟩:=HW.out.get hx
   have hi0:(0:Int)≤(m:Int)-1:=by omega
   have hi1:((m:Int)-1).toNat=m-1:=by omega
   have hi2:1≤m:=by omega
   by_cases hx0:x=0
   ·subst hx0
    have HV':Hid (lv (l.take (m-1))=lv l):=by
     unfold Hid
     have:=lv_take_succ hx
     rw [show m-1+1=m by omega,Nat.mul_zero,Nat.add_zero,HV.out] at this
     exact this.symm
    clear hx h0 hne
    go_wp2_with fail
    go_roundw
    case rel=>exact ⟨m-1,by omega,by first | rfl | (simp;omega),HV',k,rfl⟩
    case measure=>simp;omega
   ·have HF:Hid (OwnP B w (.slice (some ⟨g,0,none⟩) m cap) (l.take m)∧Can (l.take m)∧lv (l.take m)=lv l∧(l.take m).length≤l.length):=by
     refine ⟨HW.out.take m hm,⟨HP.out.take m,?_⟩,HV.out,by rw [List.length_take];omega⟩
     intro y hy
     rw [List.length_take,Nat.min_eq_left hm,List.getElem?_take,if_pos (by omega),hx] at hy
     cases hy;exact hx0
    have hxb:((x:Int) == 0)=false:=by rw [beq_eq_false_iff_ne];omega
    clear hx h0 hne
    go_wp2_with fail
    go_ret
    exact ⟨_,_,rfl,HF.out,k,rfl⟩
theorem bytes_get (s:ByteArray) (j:Nat) (h:j<s.size):s.data.toList[j]?=some s[j]:=by
 have:j<s.data.toList.length:=by rw [← Lib.size_eq];exact h
 rw [List.getElem?_eq_getElem this]
 rfl
theorem bytesOfI (s:ByteArray) (w:World):∃ (cap:Nat) (W1:World),
  (convert 53 241 (.string s)).run Tryz.prog w=.ok (.slice (some ⟨w.heap.size,0,none⟩) s.size cap) W1∧Ext w W1 ∧
   ∀ (j:Nat) c,s.data.toList[j]?=some c→W1.cell? ⟨w.heap.size,j,none⟩=some (.int .u8 c.toNat):=by
 refine ⟨_,_,Lib.run_convert_string_bytes (P:=Tryz.prog) w 53 241 5 s (u:=.string) Tryz.underlying53 Tryz.underlying241 Tryz.underlying5,⟨rfl,rfl,rfl,by rw [Lib.bytesWorld_size];omega,fun j hj=>Lib.bytesWorld_at_old w _ s j hj⟩,fun j c hc=>?_⟩
 have hj:j<s.size:=by rw [Lib.size_eq];exact (List.getElem?_eq_some_iff.1 hc).1
 rw [Lib.bytesWorld_cell w _ s j hj]
 simp [List.getD,hc]
theorem ext_grown {w w':World} (h:w.grownBy w' none):Ext w w':=⟨h.os,h.tape,h.output,h.size,fun k hk=>h.block k hk (by simp)⟩
set_option maxRecDepth 100000 in
set_option maxHeartbeats 1000000 in
theorem cut_any (s:ByteArray) (w:World) (hd:s.data.toList.all isDig=true) (hs:s.size≤40000000000) :
  Calls Tryz.prog 169 #[.string s] w fun e w'=>∃ v l,e=.returned v∧Hid (OwnP w.heap.size w' v l∧Can l∧lv l=decV 0 s.data.toList∧l.length≤s.size)∧Ext w w':=by
 obtain ⟨i0,hi,hz0,hz1,hz2⟩:=info_parts infoU64
 have HI:=Lib.hid hi;have HZ0:=Lib.hid hz0;have HZ1:=Lib.hid hz1;have HZ2:=Lib.hid hz2
 have HD:=Lib.hid hd
 clear hi hz0 hz1 hz2 hd
 obtain ⟨c,hc⟩:∃ c:Nat,c=s.size / 9+1:=⟨_,rfl⟩
 have hcb:c≤10000000000:=by omega
 have hcc:((s.size:Int) / 9+1)=(c:Int):=by omega
 have hl:s.data.toList.length=s.size:=(Lib.size_eq s).symm
 have HL:=Lib.hid hl
 clear hl hc
 go_enter Tryz.func169,Tryz.ntmps169
 go_wp2_with (at_make;refine wpList_make_own _ rfl _ _ 209 rfl w.heap.size 204 i0 (.int .u64 0) 1 Tryz.underlying209 HI.out HZ0.out HZ1.out _ _ _ c rfl rfl rfl ?c1 ?c2 ?c3 ?_)
 case c1=>rw [HZ2.out];omega
 case c2=>unfold maxLen;omega
 case c3=>exact Nat.le_refl _
 intro w1 hown hgrow
 have HO:Hid (OwnP w.heap.size w1 (.slice (some ⟨w.heap.size,0,none⟩) 0 c) []):=hown
 have hE1:=ext_grown hgrow
 clear hown hgrow
 go_wp2_with fail
 have HB0:Hid (Build w1 w.heap.size 204 1 (.slice (some ⟨w.heap.size,0,none⟩) 0 c) pcR []):=OwnP.build HO.out
 have HS0:Hid (Pcs []∧([]:List Nat).length=0∧lv []=decV 0 (s.data.toList.drop (s.size-9*0))):=by
  refine ⟨Pcs.nil,rfl,?_⟩
  rw [Nat.mul_zero,Nat.sub_zero,List.drop_eq_nil_of_le (by rw [HL.out];exact Nat.le_refl _)];rfl
 clear HO hcb hcc
 go_loopw [3,4] (fun out i wr=>∃ (k:Nat) (e:Int) (l:List Nat),i=.int .i64 e∧e≤(s.size:Int)∧-9<e∧Hid (e=s.size-9*k)∧Ext w wr∧Hid (Build wr w.heap.size 204 1 out pcR l)∧Hid (Pcs l∧l.length=k∧lv l=decV 0 (s.data.toList.drop (s.size-9*k)))) (fun _ i _=>(intOf i).toNat)
 case atStart=>exact ⟨0,_,[],rfl,by omega,by omega,by unfold Hid;omega,hE1,HB0.out,HS0.out⟩
 case round =>
  obtain ⟨k,e,l,rfl,he1,he2,HE,hEw,HB,HS⟩:=hrel
  obtain ⟨wo,rfl⟩:∃ wo:World,wo=wr:=⟨_,rfl⟩
  clear HB0 HS0
  by_cases h0:0<e
  ·obtain ⟨m,rfl⟩:∃ m:Nat,e=m:=⟨e.toNat,by omega⟩
   have HM:Hid (m=s.size-9*k):=by have:=HE.out;unfold Hid;omega
   have HMK:Hid (s.size-m=9*k):=by have:=HE.out;unfold Hid;omega
   have HFX:Hid (∀ f:Nat,f≤m→m≤f+9→(0<f→f+9=m)→m≤s.size→(s.extract f m).data.toList=(s.data.toList.take m).drop f∧(s.extract f m).size=m-f):=by
    intro f h1 h2 h3 h4
    have e:(s.extract f m).data.toList=(s.data.toList.take m).drop f:=by rw [Lib.extract_data,List.drop_take]
    refine ⟨e,?_⟩
    rw [Lib.size_eq,e,List.length_drop,List.length_take,HL.out];omega
   obtain ⟨f,hf⟩:∃ f:Nat,(m≤9∧f=0)∨(9<m∧(m:Int)-9=(f:Int)):=by
    by_cases h9:m≤9
    ·exact ⟨0,.inl ⟨h9,rfl⟩⟩
    ·exact ⟨m-9,.inr ⟨by omega,by omega⟩⟩
   have hms:m≤s.size:=by omega
   have hfm:f≤m:=by omega
   have hfm9:m≤f+9:=by omega
   have HX:=Lib.hid (HFX.out f hfm hfm9 (by omega) hms)
   obtain ⟨cap,W1,hcv,hE1,hcell⟩:=bytesOfI (s.extract f m) wo
   obtain ⟨b,hb⟩:∃ b,b=s.extract f m:=⟨_,rfl⟩
   rw [← hb] at hcell HX
   have hbs:b.size=m-f:=HX.out.2
   rw [← hb,hbs] at hcv
   rw [hb] at hcv
   have HC:=Lib.hid hcell
   have HE1:=Lib.hid (hEw.trans hE1)
   have HB1:=Lib.hid (Build.ext HB.out hE1)
   obtain ⟨mf,hmf⟩:∃ mf,mf=m-f:=⟨_,rfl⟩
   rw [← hmf] at hcv hbs
   have hmf9:mf≤9:=by omega
   have HBS:=Lib.hid hbs
   have HMF:=Lib.hid hmf
   clear hcell hE1 hb hbs HFX hmf
   rcases hf with ⟨h9,rfl⟩ | ⟨h9,hf⟩
   all_goals
    go_wp2_with fail
    clear hcv
    go_loopw [27,5] (fun j n wr=>∃ (i v:Nat),i≤mf∧j=.int .i64 i∧n=.int .u64 v∧v≤1000000000∧Hid (v=decV 0 (b.data.toList.take i))∧Hid (Ext W1 wr)) (fun j _ _=>mf-(intOf j).toNat)
    case atStart=>exact ⟨0,0,by omega,rfl,rfl,by omega,rfl,Ext.refl _⟩
    case round =>
     obtain ⟨i,v,hi,rfl,rfl,hv,HV,HEi⟩:=hrel
     obtain ⟨wi,rfl⟩:∃ wi:World,wi=wr:=⟨_,rfl⟩
     have HSUB:Hid (b.data.toList.all isDig=true):=by unfold Hid;rw [HX.out.1];exact all_sub HD.out _ _
     by_cases hlt:i<mf
     ·obtain ⟨ch,hch⟩:∃ ch,b.data.toList[i]?=some ch:=⟨_,bytes_get b i (by rw [HBS.out];exact hlt)⟩
      have g1:=HEi.out.cell (HC.out i ch hch)
      have hdig:48≤ch.toNat∧ch.toNat≤57:=of_decide_eq_true (List.all_eq_true.1 HSUB.out ch (List.mem_of_getElem? hch))
      obtain ⟨z,hz⟩:∃ z:Nat,ch.toNat=z+48:=⟨ch.toNat-48,by omega⟩
      have hz9:z≤9:=by omega
      have HV':Hid (10*v+z=decV 0 (b.data.toList.take (i+1))):=by
       unfold Hid
       rw [List.take_add_one,hch,decV_append,← HV.out]
       show _=decV v [ch]
       rw [decV_cons,decV_nil,hz];omega
      have hv2:10*v+z≤1000000000:=by
       have:=slice_lt (all_sub (e:=i+1) (f:=0) HSUB.out) (by rw [List.drop_zero,List.length_take];omega)
       rw [List.drop_zero,← HV'.out] at this
       omega
      rw [hz] at g1
      clear hch hdig hz
      go_wp2_with fail
      go_roundw
      case rel=>exact ⟨i+1,10*v+z,by omega,by go_num,by go_num,hv2,HV'.out,HEi.out⟩
      case measure=>simp [intOf];omega
     ·obtain rfl:mf=i:=by omega
      have HBi:=Lib.hid (Build.ext HB1.out HEi.out)
      have HEi2:=Lib.hid (Ext.trans HE1.out HEi.out)
      have hszi:w.heap.size≤wi.heap.size:=HEi2.out.size
      have HLL:Hid (l.length<100000000000):=by have:=HS.out.2.1;unfold Hid;have:=HE.out;omega
      have HNEW:Hid (Pcs (l++[v])∧(l++[v]).length=k+1∧lv (l++[v])=decV 0 (s.data.toList.drop (s.size-9*(k+1)))):=by
       have hbl:b.data.toList.length=mf:=by rw [← Lib.size_eq,HBS.out]
       have hvb:v=decV 0 b.data.toList:=by rw [HV.out,List.take_of_length_le (by omega)]
       have hv9:v<1000000000:=by rw [hvb];exact slice_lt HSUB.out (by omega)
       refine ⟨HS.out.1.append (Pcs.cons hv9 Pcs.nil),by rw [List.length_append,HS.out.2.1];rfl,?_⟩
       rw [lv_append,HS.out.2.2,HS.out.2.1,lv_cons,lv_nil,Nat.mul_zero,Nat.add_zero,hvb,HX.out.1,← HM.out]
       have:=cut_round (l:=s.data.toList) (e:=m) (k:=k) (by rw [HL.out];exact hms) (by rw [HL.out];exact HMK.out) _ hfm rfl
       rw [this]
       congr 2
       have:=HE.out
       omega
      clear hlt
      go_wp2_with (at_builtin;go_must (refine wpList_append_buildL _ rfl _ _ 209 rfl w.heap.size 204 (.int .u64 0) 1 8 Tryz.underlying209 infoU64 rfl (by decide) u3 pcR l v #[.int .u64 v] 204 rfl HBi.out rfl rfl ?_ (fun _ _=>rfl) HLL.out (by decide) hszi ?_))
      all_goals first | (simp [Value.oneCell'];done) | skip
      intro v' w5 hB5 hg5 hb5 hs5 _
      have HB5:=Lib.hid hB5
      have HX5:=Lib.hid (Below.trans HEi2.out hb5)
      clear hB5 hg5 hb5
      go_wp2_with fail
      go_roundw
      case rel=>exact ⟨k+1,_,l++[v],rfl,by omega,by omega,by have:=HE.out;unfold Hid;omega,HX5.out,HB5.out,HNEW.out⟩
      case measure=>simp [intOf];omega
  ·have HF:Hid (lv l=decV 0 s.data.toList):=by
    have:=HE.out
    unfold Hid
    rw [HS.out.2.2,show s.size-9*k=0 by omega,List.drop_zero]
   have HW:Hid (OwnP w.heap.size wo u3 l):=HB.out.ownP
   have HT:=Lib.hid (trim_any w.heap.size l u3 wo HW.out HS.out.1)
   go_wp2_with fail
   refine HT.out.mono ?_
   rintro e' w' ⟨v',l',rfl,hr,kk,rfl⟩
   have HR:=Lib.hid hr
   clear hr HT
   go_wp2_with fail
   go_ret
   refine ⟨v',l',rfl,⟨HR.out.out.1,HR.out.out.2.1,HR.out.out.2.2.1.trans HF.out,?_⟩,Ext.draws hEw _⟩
   have:=HR.out.out.2.2.2
   have:=HS.out.2.1
   have:=HE.out
   omega
def byV (c:UInt8):Value:=.int .u8 c.toNat
def OwnB (B:Nat) (w:World) (v:Value) (l:List UInt8):Prop:=w.ownsRow B 5 1 v l.length (l.map byV)
theorem OwnB.len {B g n cap:Nat} {w:World} {l:List UInt8} (h:OwnB B w (.slice (some ⟨g,0,none⟩) n cap) l):n=l.length:=by
 rcases h.2 with ⟨e,_⟩ | ⟨g',cap',cur,e,_⟩
 ·cases e
 ·simp only [Value.slice.injEq] at e;exact e.2.1
theorem OwnB.get {B g n cap:Nat} {w:World} {l:List UInt8} (h:OwnB B w (.slice (some ⟨g,0,none⟩) n cap) l) {k:Nat} {x:UInt8} (hx:l[k]?=some x) :
  w.cell? ⟨g,k,none⟩=some (.int .u8 x.toNat)∧w.frozen? ⟨g,k,none⟩=false:=by
 have hk:k<l.length:=(List.getElem?_eq_some_iff.1 hx).1
 have hn:=h.len
 subst hn
 exact ⟨(World.ownsRow.cellAt h k (by simpa using hk)).trans (by simp [hx,byV]),World.ownsRow.frozenAt h k⟩
theorem OwnB.set {B g n cap:Nat} {w:World} {l:List UInt8} (h:OwnB B w (.slice (some ⟨g,0,none⟩) n cap) l) (k:Nat) (x:UInt8) :
  OwnB B (w.setCell ⟨g,k,none⟩ (.int .u8 x.toNat)) (.slice (some ⟨g,0,none⟩) n cap) (l.set k x):=by
 have hn:=h.len
 subst hn
 unfold OwnB at h ⊢
 rw [List.map_set,List.length_set];exact (World.ownsRow.stored h k _).1
theorem OwnB.form {B:Nat} {w:World} {v:Value} {l:List UInt8} (h:OwnB B w v l):∃ a cap,v=.slice a l.length cap∧l.length≤cap∧cap≤9223372036854775807∧(l≠[]→∃ g,a=some ⟨g,0,none⟩∧B≤g∧g<w.heap.size):=by
 rcases h.2 with ⟨rfl,hn⟩ | ⟨g,cap,cur,rfl,hb,hg,h1,h2,h3,h4⟩
 ·exact ⟨none,0,by rw [hn],by omega,by omega,fun hne=>absurd (List.length_eq_zero_iff.1 hn) hne⟩
 ·exact ⟨_,cap,rfl,h1,h2,fun _=>⟨g,rfl,hb,(Array.getElem?_eq_some_iff.1 hg).1⟩⟩
theorem OwnB.draws {B:Nat} {w:World} {v:Value} {l:List UInt8} (h:OwnB B w v l) (k:Nat):OwnB B (w.drewN k) v l:=owns_ext h (Ext.drewN w k)
def byR (_:World) (u:List Value) (x:UInt8):Prop:=u=[byV x]
theorem Build.ownB {B:Nat} {w:World} {v:Value} {l:List UInt8} (h:Build w B 5 1 v byR l):OwnB B w v l:=by
 obtain ⟨us,h1,h2,h3,h4⟩:=h
 have:us=l.map fun x=>[byV x]:=by
  apply List.ext_getElem?
  intro i
  rw [List.getElem?_map]
  by_cases hi:i<l.length
  ·have hi2:i<us.length:=by omega
   have:=(h4 i us[i] l[i] (by simp [hi2]) (by simp [hi])).now
   simp only [byR] at this
   simp [hi,hi2,this]
  ·rw [List.getElem?_eq_none (by omega),List.getElem?_eq_none (by omega)];rfl
 rw [this,flatten_one] at h3
 exact h3
def Swapped (bs l:List UInt8) (i:Nat):Prop:=l.length=bs.length∧∀ k,k<bs.length→l[k]?=if k<i∨bs.length≤k+i then bs[bs.length-1-k]? else bs[k]?
theorem Swapped.zero (bs:List UInt8):Swapped bs bs 0:=⟨rfl,fun k hk=>by rw [if_neg (by omega)]⟩
theorem Swapped.done {bs l:List UInt8} {i:Nat} (h:Swapped bs l i) (hi:bs.length≤2*i+1):l=bs.reverse:=by
 apply List.ext_getElem?
 intro k
 by_cases hk:k<bs.length
 ·rw [h.2 k hk,List.getElem?_reverse hk]
  split
  ·rfl
  ·have:bs.length-1-k=k:=by omega
   rw [this]
 ·rw [List.getElem?_eq_none (by have:=h.1;omega),List.getElem?_eq_none (by rw [List.length_reverse];omega)]
theorem Swapped.step {bs l:List UInt8} {i j:Nat} {x y:UInt8} (h:Swapped bs l i) (hj:i+j+1=bs.length) (hij:i<j) (hx:l[i]?=some x) (hy:l[j]?=some y):Swapped bs ((l.set i y).set j x) (i+1):=by
 have hl:=h.1
 refine ⟨by simp [hl],fun k hk=>?_⟩
 have h1:=h.2 i (by omega)
 have h2:=h.2 j (by omega)
 rw [if_neg (by omega)] at h1 h2
 rw [List.getElem?_set,List.getElem?_set]
 by_cases e1:j=k
 ·subst e1
  rw [if_pos rfl,if_pos (by simp [hl];omega),if_pos (by omega),show bs.length-1-j=i by omega,← h1,hx]
 ·rw [if_neg e1]
  by_cases e2:i=k
  ·subst e2
   rw [if_pos rfl,if_pos (by omega),if_pos (by omega),show bs.length-1-i=j by omega,← h2,hy]
  ·rw [if_neg e2,h.2 k hk]
   by_cases c:k<i∨bs.length≤k+i
   ·rw [if_pos c,if_pos (by omega)]
   ·rw [if_neg c,if_neg (by omega)]
set_option maxRecDepth 100000 in
set_option maxHeartbeats 1000000 in
theorem reverse_any (B:Nat) (bs:List UInt8) (v:Value) (w:World) (h:OwnB B w v bs) :
  Calls Tryz.prog 205 #[v] w fun e w'=>e=.returned (.tuple #[])∧OwnB B w' v bs.reverse∧w.grownBy w' v.ownBlock:=by
 obtain ⟨a,cap,rfl,hl,hc,hg⟩:=h.form
 have HW:=Lib.hid h
 have HG:=Lib.hid hg
 clear h hg
 go_enter Tryz.func205,Tryz.ntmps205
 go_wp2_with fail
 go_loopw [2,3] (fun i j wr=>∃ (x:Nat) (y:Int) (l:List UInt8),i=.int .i64 x∧j=.int .i64 y∧(x:Int)≤bs.length∧y<bs.length∧-2<y∧Hid ((x:Int)+y+1=bs.length)∧Hid (OwnB B wr (.slice a bs.length cap) l)∧Hid (Swapped bs l x)∧Hid (w.grownBy wr (Value.slice a bs.length cap).ownBlock)) (fun i j _=>(intOf j-intOf i).toNat)
 case atStart=>exact ⟨0,_,bs,rfl,rfl,by omega,by omega,by omega,by unfold Hid;omega,HW.out,Swapped.zero bs,World.grownBy.refl _ _⟩
 case round =>
  obtain ⟨x,y,l,rfl,rfl,hx,hy,hy2,HXY,HO,HS,HGR⟩:=hrel
  obtain ⟨wo,rfl⟩:∃ wo:World,wo=wr:=⟨_,rfl⟩
  by_cases hlt:(x:Int)<y
  ·obtain ⟨j,rfl⟩:∃ j:Nat,y=j:=⟨y.toNat,by omega⟩
   have hxy:=HXY.out
   obtain ⟨g,rfl,hg1,hg2⟩:=HG.out (by rintro rfl;simp at hy;omega)
   have hll:=HS.out.1
   obtain ⟨cx,hcx⟩:∃ c,l[x]?=some c:=⟨_,List.getElem?_eq_getElem (by omega)⟩
   obtain ⟨cy,hcy⟩:∃ c,l[j]?=some c:=⟨_,List.getElem?_eq_getElem (by omega)⟩
   obtain ⟨c1,f1⟩:=HO.out.get hcx
   obtain ⟨c2,f2⟩:=HO.out.get hcy
   have HS2:=Lib.hid (HS.out.step (by omega) (by omega) hcx hcy)
   have HO2:=Lib.hid ((HO.out.set x cy).set j cx)
   have HN:=Lib.hid (fun k=>OwnB.draws (HO2.out) k)
   have hxj:x<bs.length:=by omega
   have hjj:j<bs.length:=by omega
   have hne:¬ x=j:=by omega
   have hne2:¬ j=x:=by omega
   clear hxy hll hcx hcy HG
   go_wp2_with fail
   go_region
   all_goals
    go_wp2_with fail
    go_roundw
    case rel =>
     refine ⟨x+1,_,_,by go_num,rfl,by omega,by omega,by omega,by have:=HXY.out;unfold Hid;omega,owns_ext HO2.out (Ext.drew _),HS2.out,?_⟩
     exact grown_trans (grown_trans (grown_trans HGR.out (grown_setCell _ g _ _)) (grown_setCell _ g _ _)) ((Ext.drew _).grown _)
    case measure=>simp [intOf];omega
  ·have HF:=Lib.hid (HS.out.done (by have:=HXY.out;omega))
   rw [HF.out] at HO
   go_wp2_with fail
   refine bodyPost_end (results_none rfl _ _ _) rfl ⟨rfl,HO.out,HGR.out⟩
structure TextS (l:List Nat) (i:Nat) (bs:List UInt8):Prop where
 dig:bs.all isDig=true
 len:i<l.length→bs.length=9*i
 le:bs.length≤9*i
 val:dv bs=lv (l.take i)
 last:i=l.length→∃ c,bs.getLast?=some c∧c≠48
structure TextK (l:List Nat) (i k n:Nat) (bs:List UInt8):Prop where
 dig:bs.all isDig=true
 len:bs.length=9*i+k
 val:dv bs+10^bs.length*n=lv (l.take (i+1))
 lt:n<10^(9-k)
 last:i+1=l.length→n=0→∃ c,bs.getLast?=some c∧c≠48
theorem TextS.zero (l:List Nat) (h:l≠[]):TextS l 0 []:=⟨rfl,fun _=>rfl,by simp,rfl,fun e=>absurd (List.length_eq_zero_iff.1 e.symm) h⟩
theorem TextS.enter {l:List Nat} {i x:Nat} {bs:List UInt8} (h:TextS l i bs) (hc:Can l) (hx:l[i]?=some x):TextK l i 0 x bs:=by
 have hi:=(List.getElem?_eq_some_iff.1 hx).1
 refine ⟨h.dig,h.len hi,?_,hc.1.get hx,fun he h0=>?_⟩
 ·rw [h.val,h.len hi,lv_take_succ hx,pB_pow]
 ·exact absurd h0 (hc.2 x (by rw [← he,Nat.add_sub_cancel];exact hx))
theorem TextK.step {l:List Nat} {i k n:Nat} {bs:List UInt8} {c:UInt8} (h:TextK l i k n bs) (hk:k<9) (hn:i+1<l.length∨0<n) (hc:c.toNat=48+n%10):TextK l i (k+1) (n / 10) (bs++[c]):=by
 refine ⟨?_,by rw [List.length_append,h.len];rfl,text_round hc h.val,?_,fun he h0=>⟨c,by simp,?_⟩⟩
 ·rw [List.all_append,h.dig,Bool.true_and,List.all_cons,List.all_nil,Bool.and_true]
  exact decide_eq_true (by omega)
 ·have:=h.lt
  rw [show 9-k=(9-(k+1))+1 by omega,Nat.pow_succ] at this
  omega
 ·rintro rfl
  rw [show (48:UInt8).toNat=48 from rfl] at hc
  omega
theorem TextK.leave {l:List Nat} {i k n:Nat} {bs:List UInt8} (h:TextK l i k n bs) (hk:k≤9) (hi:i<l.length) (hn:k=9∨(¬ i+1<l.length∧n=0)):TextS l (i+1) bs:=by
 have h0:n=0:=by
  rcases hn with rfl | ⟨-,h⟩
  ·have:=h.lt;rw [Nat.sub_self,Nat.pow_zero] at this;omega
  ·exact h
 have hv:=h.val
 rw [h0,Nat.mul_zero,Nat.add_zero] at hv
 exact ⟨h.dig,fun hlt=>by have:=h.len;omega,by have:=h.len;omega,hv,fun he=>h.last he h0⟩
theorem TextS.done {l:List Nat} {bs:List UInt8} (h:TextS l l.length bs):bs.reverse=(numB (lv l)).data.toList:=by
 obtain ⟨c,hc,hc48⟩:=h.last rfl
 have hne:bs≠[]:=by rintro rfl;simp at hc
 have h1:=num_unique (l:=bs.reverse) (by rw [List.all_reverse];exact h.dig) (by simpa using hne) (.inl (by rw [List.head?_reverse,hc];simpa using hc48))
 rw [h1,decV_reverse,h.val,List.take_length,numB_data]
set_option maxRecDepth 100000 in
set_option maxHeartbeats 2000000 in
theorem text_any (l:List Nat) (v:Value) (w:World) (h:PcsAt w v l) (hc:Can l) (hlen:l.length≤10000000000) :
  Calls Tryz.prog 172 #[v] w fun e w'=>e=.returned (.string (numB (lv l)))∧Ext w w':=by
 obtain ⟨a,cap,rfl,hl,hcap,hcell⟩:=h.open
 have HX:=Lib.hid hcell
 have HC:=Lib.hid hc
 clear h hcell hc
 by_cases hn:l=[]
 ·subst hn
  have HF:Hid (numB (lv [])=⟨#[48]⟩):=by unfold Hid numB;rw [lv_nil,Lib.decDigits_one (by omega)];rfl
  rw [HF.out]
  go_enter Tryz.func172,Tryz.ntmps172
  go_wp2_with fail
  go_ret
  exact ⟨rfl,Ext.refl _⟩
 ·obtain ⟨b,off,rfl,hb,hcell⟩:=HX.out hn
  have HCELL:=Lib.hid hcell
  have hpos:0<l.length:=List.length_pos_iff.2 hn
  have hnz:((l.length:Int) == 0)=false:=by rw [beq_eq_false_iff_ne];omega
  have HN:=Lib.hid hn
  obtain ⟨c9,hc9⟩:∃ c9:Nat,(9*(l.length:Int))=(c9:Int):=⟨9*l.length,by omega⟩
  have hc9b:c9≤90000000000:=by omega
  obtain ⟨i0,hi,hz0,hz1,hz2⟩:=info_parts infoU8
  have HI:=Lib.hid hi;have HZ0:=Lib.hid hz0;have HZ1:=Lib.hid hz1;have HZ2:=Lib.hid hz2
  clear hi hz0 hz1 hz2 HX hcell hn
  go_enter Tryz.func172,Tryz.ntmps172
  go_wp2_with (at_make;refine wpList_make_own _ rfl _ _ 241 rfl w.heap.size 5 i0 (.int .u8 0) 1 Tryz.underlying241 HI.out HZ0.out HZ1.out _ _ _ c9 rfl rfl rfl ?c1 ?c2 ?c3 ?_)
  case c1=>rw [HZ2.out];omega
  case c2=>unfold maxLen;omega
  case c3=>exact Nat.le_refl _
  intro w1 hown hgrow
  have HB0:Hid (Build w1 w.heap.size 5 1 (.slice (some ⟨w.heap.size,0,none⟩) 0 c9) byR []):=⟨[],rfl,by simp,by simpa using hown,by simp⟩
  have hE1:=ext_grown hgrow
  have HS0:=Lib.hid (TextS.zero l HN.out)
  clear hown hgrow hc9 hc9b
  go_wp2_with fail
  go_loopw [3,16] (fun out t wr=>∃ (i:Nat) (bs:List UInt8),i≤l.length∧t=.int .i64 i∧Ext w wr∧Hid (Build wr w.heap.size 5 1 out byR bs)∧Hid (TextS l i bs)) (fun _ t _=>l.length-(intOf t).toNat)
  case atStart=>exact ⟨0,[],by omega,rfl,hE1,HB0.out,HS0.out⟩
  case round =>
   obtain ⟨i,bs,hi,rfl,hEw,HB,HS⟩:=hrel
   obtain ⟨wo,rfl⟩:∃ wo:World,wo=wr:=⟨_,rfl⟩
   clear HB0 HS0
   by_cases hlt:i<l.length
   ·obtain ⟨x,hx⟩:∃ x,l[i]?=some x:=⟨_,List.getElem?_eq_getElem hlt⟩
    have g1:=hEw.cell (HCELL.out i x hx)
    have hxb:=HC.out.1.get hx
    have HK0:=Lib.hid (HS.out.enter HC.out hx)
    clear hx
    go_wp2_with fail
    go_loopw [3,6,5] (fun out t n wr=>∃ (k m:Nat) (bs:List UInt8),k≤9∧t=.int .i64 k∧n=.int .u64 m∧m<1000000000∧Ext w wr∧Hid (Build wr w.heap.size 5 1 out byR bs)∧Hid (TextK l i k m bs)) (fun _ t _ _=>9-(intOf t).toNat)
    case atStart=>exact ⟨0,x,bs,by omega,rfl,rfl,hxb,hEw,HB.out,HK0.out⟩
    case round =>
     obtain ⟨k,m,bs',hk,rfl,rfl,hm,hEi,HBi,HKi⟩:=hrel
     obtain ⟨wi,rfl⟩:∃ wi:World,wi=wr:=⟨_,rfl⟩
     clear g1
     by_cases hgo:k<9∧(i+1<l.length∨0<m)
     ·obtain ⟨hk9,hgo⟩:=hgo
      obtain ⟨d,hd⟩:∃ d,m%10=d:=⟨_,rfl⟩
      obtain ⟨q,hq⟩:∃ q,m / 10=q:=⟨_,rfl⟩
      have hdi:(m:Int)%10=(d:Int):=by omega
      have hqi:(m:Int) / 10=(q:Int):=by omega
      have hd9:d≤9:=by omega
      have hqb:q<1000000000:=by omega
      obtain ⟨ch,hch⟩:∃ ch:UInt8,ch.toNat=48+d:=⟨UInt8.ofNat (48+d),by rw [UInt8.toNat_ofNat'];omega⟩
      have HK2:Hid (TextK l i (k+1) q (bs'++[ch])):=by
       unfold Hid;rw [← hq];exact HKi.out.step hk9 hgo (by rw [hch,hd])
      have hsz:w.heap.size≤wi.heap.size:=hEi.size
      have HLL:Hid (bs'.length<100000000000):=by have:=HKi.out.len;unfold Hid;omega
      have HRR:Hid (∀ x:World,byR x [Value.int .u8 (48+(d:Int))] ch):=fun _=>by unfold byR byV;rw [hch];rfl
      clear hd hq hch
      have hgo1:i+1<l.length∨(¬ i+1<l.length∧0<m):=by omega
      clear hgo
      rcases hgo1 with hl1 | ⟨hl1,hm0⟩
      all_goals
       go_wp2_with (at_builtin;go_must (refine wpList_append_buildL _ rfl _ _ 241 rfl w.heap.size 5 (.int .u8 0) 1 1 Tryz.underlying241 infoU8 rfl (by decide) u3 byR bs' ch #[.int .u8 (48+d)] 5 rfl HBi.out rfl rfl ?_ (fun x _=>HRR.out x) HLL.out (by decide) hsz ?_))
       all_goals first | (simp [Value.oneCell'];done) | skip
       intro v' w5 hB5 hg5 hb5 hs5 _
       have HB5:=Lib.hid hB5
       have HX5:=Lib.hid (Below.trans hEi hb5)
       clear hB5 hg5 hb5
       go_wp2_with fail
       go_roundw
       case rel=>exact ⟨k+1,q,_,by omega,by go_num,rfl,hqb,HX5.out,HB5.out,HK2.out⟩
       case measure=>simp [intOf];omega
     ·have hlv:k=9∨(k<9∧¬ i+1<l.length∧m=0):=by omega
      have HS2:Hid (TextS l (i+1) bs'):=HKi.out.leave hk hlt (by omega)
      clear hgo
      rcases hlv with rfl | ⟨hk9,hl1,rfl⟩
      all_goals
       go_wp2_with fail
       go_roundw
       case rel=>exact ⟨i+1,bs',by omega,by go_num,hEi,HBi.out,HS2.out⟩
       case measure=>simp [intOf];omega
   ·obtain rfl:l.length=i:=by omega
    have hsh:=HB.out
    have HDONE:=Lib.hid (HS.out.done)
    obtain ⟨c,hc,-⟩:=HS.out.last rfl
    have hbl:0<bs.length:=by cases bs with | nil=>simp at hc | cons _ _=>simp
    have HLE:Hid (bs.length≤90000000000):=by have:=HS.out.le;unfold Hid;omega
    have hown:=HB.out.ownB
    obtain ⟨g,capb,rfl,hg1,hg2,hg3,hg4⟩:=owns_shape hown hbl
    have HREV:=Lib.hid (reverse_any w.heap.size bs _ wo hown)
    unfold maxLen at hg4
    have hcv:∀ w',OwnB w.heap.size w' (.slice (some ⟨g,0,none⟩) bs.length capb) bs.reverse→(convert 241 53 (.slice (some ⟨g,0,none⟩) bs.length capb)).run Tryz.prog w'=.ok (.string (numB (lv l))) w':=by
     intro w' ho
     have e:numB (lv l)=⟨bs.reverse.toArray⟩:=by
      have h1:=HDONE.out
      generalize numB (lv l)=nb at *
      cases nb with | mk d=>simp only at h1;rw [h1]
     rw [e]
     have:=run_convert_bytes_back w' 241 53 5 ⟨g,0,none⟩ capb bs.reverse Tryz.underlying241 Tryz.underlying5 Tryz.underlying53 (by
      intro j hj
      have hx:=(ho.get (k:=j) (x:=bs.reverse[j]) (List.getElem?_eq_getElem hj)).1
      rw [show (⟨g,0,none⟩:Addr).add j=⟨g,j,none⟩ by unfold Addr.add;split <;> simp_all]
      exact hx)
     rw [List.length_reverse] at this
     exact this
    have HCV:=Lib.hid hcv
    clear hc hsh hown hcv hbl
    go_wp2_with fail
    refine HREV.out.mono ?_
    rintro e w5 ⟨rfl,ho5,hg5⟩
    have hcv:=HCV.out _ ho5
    have HX5:Hid (Ext w w5):=Below.trans hEw ⟨hg5.os,hg5.tape,hg5.output,hg5.size,fun k hk=>hg5.block k (Nat.lt_of_lt_of_le hk hEw.size) (by simp only [Value.ownBlock];intro e;cases e;omega)⟩
    clear ho5 hg5 HREV HCV
    go_wp2_with fail
    go_ret
    exact ⟨rfl,HX5.out⟩
set_option maxRecDepth 100000 in
set_option maxHeartbeats 1000000 in
theorem pcompare_any (p q:List Nat) (u v:Value) (w:World) (hu:PcsAt w u p) (hv:PcsAt w v q) (hp:Can p) (hq:Can q) (hlp:p.length≤10000000000) (hlq:q.length≤10000000000) :
  Calls Tryz.prog 192 #[u,v] w fun e w'=>e=.returned (.int .i64 (cmpN (lv p) (lv q)))∧Ext w w':=by
 obtain ⟨a,ca,rfl,hla,hca,hcu⟩:=hu.open
 obtain ⟨b,cb,rfl,hlb,hcb,hcv⟩:=hv.open
 have HP:=Lib.hid hp;have HQ:=Lib.hid hq
 have HU:=Lib.hid hcu;have HV:=Lib.hid hcv
 clear hu hv hcu hcv hp hq
 by_cases hl:p.length=q.length
 ·have hl':((p.length:Int) != (q.length:Int))=false:=by simp [hl]
  have HL:=Lib.hid hl
  have hpq1:p.length≤q.length:=by omega
  have hpq2:q.length≤p.length:=by omega
  clear hl
  go_enter Tryz.func192,Tryz.ntmps192
  go_wp2_with fail
  go_loopw [5] (fun i wr=>∃ y:Int,i=.int .i64 y∧y<p.length∧-2<y∧Hid (∃ k:Nat,y+1=k∧k≤p.length∧p.drop k=q.drop k)∧Ext w wr) (fun i _=>(intOf i+1).toNat)
  case atStart=>exact ⟨_,rfl,by omega,by omega,⟨p.length,by omega,Nat.le_refl _,by rw [List.drop_length,HL.out,List.drop_length]⟩,Ext.refl _⟩
  case round =>
   obtain ⟨y,rfl,hy1,hy2,HK,hE⟩:=hrel
   obtain ⟨wo,rfl⟩:∃ wo:World,wo=wr:=⟨_,rfl⟩
   by_cases h0:0≤y
   ·obtain ⟨k,rfl⟩:∃ k:Nat,y=k:=⟨y.toNat,by omega⟩
    have hkp:k<p.length:=by omega
    have hkq:k<q.length:=by omega
    obtain ⟨x,hx⟩:∃ x,p[k]?=some x:=⟨_,List.getElem?_eq_getElem hkp⟩
    obtain ⟨z,hz⟩:∃ z,q[k]?=some z:=⟨_,List.getElem?_eq_getElem hkq⟩
    obtain ⟨ba,oa,rfl,-,hca'⟩:=HU.out (by rintro rfl;simp at hkp)
    obtain ⟨bb,ob,rfl,-,hcb'⟩:=HV.out (by rintro rfl;simp at hkq)
    have g1:=hE.cell (hca' k x hx)
    have g2:=hE.cell (hcb' k z hz)
    have HD:Hid (p.drop (k+1)=q.drop (k+1)):=by
     obtain ⟨k',e,-,h⟩:=HK.out
     have:k'=k+1:=by omega
     rw [this] at h;exact h
    have HX:=Lib.hid hx;have HZ:=Lib.hid hz
    clear hx hz hca' hcb'
    rcases Nat.lt_trichotomy x z with hxz | hxz | hxz
    ·have hb:decide (x<z)=true:=decide_eq_true (by omega)
     have HR:=Lib.hid (cmpN_lt (lv_cmp HP.out.1 HQ.out.1 HX.out HZ.out HD.out hxz))
     clear hxz
     go_wp2_with fail
     go_quiet (fail)
     go_wp2_with fail
     go_ret
     rw [HR.out]
     exact ⟨rfl,Ext.draws hE _⟩
    ·subst hxz
     have hb:decide (x<x)=false:=decide_eq_false (by omega)
     have HK2:Hid (∃ k':Nat,((k:Int)-1)+1=k'∧k'≤p.length∧p.drop k'=q.drop k'):=by
      refine ⟨k,by omega,by omega,?_⟩
      show p.drop k=q.drop k
      rw [List.drop_eq_getElem_cons hkp,List.drop_eq_getElem_cons hkq,HD.out]
      congr 1
      have h1:=(List.getElem?_eq_some_iff.1 HX.out).2
      have h2:=(List.getElem?_eq_some_iff.1 HZ.out).2
      rw [h1,h2]
     go_wp2_with fail
     go_quiet (fail)
     go_wp2_with fail
     go_quiet (fail)
     go_wp2_with fail
     go_roundw
     case rel=>exact ⟨_,rfl,by omega,by omega,HK2.out,by first | exact Ext.draws (Ext.draws hE _) _ | exact Ext.draws hE _⟩
     case measure=>simp [intOf]
    ·have hb:decide (x<z)=false:=decide_eq_false (by omega)
     have hb2:decide (z<x)=true:=decide_eq_true (by omega)
     have HR:=Lib.hid (cmpN_gt (lv_cmp HQ.out.1 HP.out.1 HZ.out HX.out HD.out.symm hxz))
     clear hxz
     go_wp2_with fail
     go_quiet (fail)
     go_wp2_with fail
     go_quiet (fail)
     go_wp2_with fail
     go_ret
     rw [HR.out]
     exact ⟨rfl,by first | exact Ext.draws (Ext.draws hE _) _ | exact Ext.draws hE _⟩
   ·have HR:Hid (cmpN (lv p) (lv q)=0):=by
     obtain ⟨k,e,-,h⟩:=HK.out
     have:k=0:=by omega
     subst this
     rw [List.drop_zero,List.drop_zero] at h
     exact cmpN_eq (by rw [h])
    go_wp2_with fail
    go_ret
    rw [HR.out]
    exact ⟨rfl,hE⟩
 ·have hl':((p.length:Int) != (q.length:Int))=true:=by simp;omega
  rcases Nat.lt_or_gt_of_ne hl with h | h
  ·have HR:=Lib.hid (cmpN_lt (Can.lt_of_length HP.out.1 HQ.out h))
   have HM:Hid (min 1 (max (-1) ((p.length:Int)-(q.length:Int)))=-1):=by unfold Hid;omega
   rw [HR.out]
   clear HR hl
   go_enter Tryz.func192,Tryz.ntmps192
   go_wp2_with fail
   go_ret
   exact ⟨rfl,Ext.refl _⟩
  ·have HR:=Lib.hid (cmpN_gt (Can.lt_of_length HQ.out.1 HP.out h))
   have HM:Hid (min 1 (max (-1) ((p.length:Int)-(q.length:Int)))=1):=by unfold Hid;omega
   rw [HR.out]
   clear HR hl
   go_enter Tryz.func192,Tryz.ntmps192
   go_wp2_with fail
   go_ret
   exact ⟨rfl,Ext.refl _⟩
structure TimesS (p q:List Nat) (i:Nat) (L:List Nat):Prop where
 len:L.length=p.length+q.length
 pcs:Pcs L
 val:lv L=lv (p.take i)*lv q
 zero:∀ j,i+q.length≤j→j<L.length→L[j]?=some 0
structure TimesK (p q:List Nat) (i x k c:Nat) (L:List Nat):Prop where
 len:L.length=p.length+q.length
 pcs:Pcs L
 lt:c<1000000000
 val:lv L+c*pB (i+k)=lv (p.take i)*lv q+x*(lv (q.take k)*pB i)
 zero:∀ j,i+q.length≤j→j<L.length→L[j]?=some 0
theorem TimesS.start (p q:List Nat):TimesS p q 0 (List.replicate (p.length+q.length) 0) :=
 ⟨by simp,Pcs.zeros _,by rw [lv_zeros,List.take_zero,lv_nil,Nat.zero_mul],fun j _ h=>by rw [List.getElem?_replicate,if_pos (by simpa using h)]⟩
theorem TimesS.enter {p q L:List Nat} {i:Nat} (x:Nat) (h:TimesS p q i L):TimesK p q i x 0 0 L :=
 ⟨h.len,h.pcs,by omega,by rw [h.val,List.take_zero,lv_nil];simp,h.zero⟩
theorem TimesK.step {p q L:List Nat} {i x k c a b y c':Nat} (h:TimesK p q i x k c L) (hk:q[k]?=some b) (ha:L[i+k]?=some a) (hx:x<1000000000) (hc:c'=c+a+x*b) (hcl:c' / 1000000000<1000000000) (hy:y=c'%1000000000) :
  TimesK p q i x (k+1) (c' / 1000000000) (L.set (i+k) y):=by
 have hkl:=(List.getElem?_eq_some_iff.1 hk).1
 refine ⟨by rw [List.length_set];exact h.len,h.pcs.set _ _ (by omega),hcl,?_,fun j hj hj2=>?_⟩
 ·have:=times_round (P:=pB (i+k)) (P':=pB (i+k+1)) (c:=c) (x:=a) (y:=y) (ab:=x*b) (acc2:=x*(lv (q.take (k+1))*pB i)) (pB_succ _) h.val hc hy (lv_set y ha) (by
   rw [lv_take_succ hk,pB_add];grind)
  exact this
 ·rw [List.getElem?_set,if_neg (by omega)]
  exact h.zero j hj (by simpa using hj2)
theorem TimesK.leave {p q L:List Nat} {i x c:Nat} (h:TimesK p q i x q.length c L) (hx:p[i]?=some x):TimesS p q (i+1) (L.set (i+q.length) c)∧L[i+q.length]?=some 0:=by
 have hi:=(List.getElem?_eq_some_iff.1 hx).1
 have h0:=h.zero (i+q.length) (Nat.le_refl _) (by rw [h.len];omega)
 refine ⟨⟨by rw [List.length_set];exact h.len,h.pcs.set _ _ h.lt,?_,fun j hj hj2=>?_⟩,h0⟩
 ·have h1:=lv_set c h0
  have h2:=h.val
  rw [List.take_length] at h2
  rw [lv_take_succ hx]
  have:(lv (p.take i)+pB i*x)*lv q=lv (p.take i)*lv q+x*(lv q*pB i):=by grind
  have:c*pB (i+q.length)=pB (i+q.length)*c:=Nat.mul_comm _ _
  omega
 ·rw [List.getElem?_set,if_neg (by omega)]
  exact h.zero j (by omega) (by simpa using hj2)
theorem mul_piece {a b:Nat} (ha:a<1000000000) (hb:b<1000000000):a*b≤999999998000000001:=by
 have:a*b≤999999999*999999999:=Nat.mul_le_mul (by omega) (by omega)
 omega
set_option maxRecDepth 100000 in
set_option maxHeartbeats 2000000 in
theorem times_any (p q:List Nat) (u v:Value) (w:World) (hu:PcsAt w u p) (hv:PcsAt w v q) (hp:Pcs p) (hq:Pcs q) (hlp:p.length≤5000000000) (hlq:q.length≤5000000000) :
  Calls Tryz.prog 174 #[u,v] w fun e w'=>∃ r l,e=.returned r∧Hid (OwnP w.heap.size w' r l∧Can l∧lv l=lv p*lv q∧l.length≤p.length+q.length)∧Ext w w':=by
 obtain ⟨a,ca,rfl,hla,hca,hcu⟩:=hu.open
 obtain ⟨b,cb,rfl,hlb,hcb,hcv⟩:=hv.open
 have HP:=Lib.hid hp;have HQ:=Lib.hid hq
 have HU:=Lib.hid hcu;have HV:=Lib.hid hcv
 obtain ⟨i0,hi,hz0,hz1,hz2⟩:=info_parts infoU64
 have HI:=Lib.hid hi;have HZ0:=Lib.hid hz0;have HZ1:=Lib.hid hz1;have HZ2:=Lib.hid hz2
 obtain ⟨n,hn⟩:∃ n:Nat,n=p.length+q.length:=⟨_,rfl⟩
 have hnn:(p.length:Int)+(q.length:Int)=(n:Int):=by omega
 have hn5:n≤10000000000:=by omega
 have hnp:p.length≤n:=by omega
 have HN:=Lib.hid hn
 clear hi hz0 hz1 hz2 hu hv hcu hcv hp hq hn
 go_enter Tryz.func174,Tryz.ntmps174
 go_wp2_with (at_make;refine wpList_make_full _ rfl _ _ 209 rfl w.heap.size 204 i0 (.int .u64 0) 1 Tryz.underlying209 HI.out HZ0.out HZ1.out _ _ _ _ n rfl rfl rfl rfl ?c1 ?c2 ?c3 ?_)
 case c1=>rw [HZ2.out];omega
 case c2=>unfold maxLen;omega
 case c3=>exact Nat.le_refl _
 intro w1 hown hgrow
 have hE1:=ext_grown hgrow
 have HO0:=Lib.hid (OwnP.made hown)
 have HS0:Hid (TimesS p q 0 (List.replicate n 0)):=by unfold Hid;rw [HN.out];exact TimesS.start p q
 clear hown hgrow
 go_wp2_with fail
 go_loopw [19] (fun t wr=>∃ (i:Nat) (L:List Nat),i≤p.length∧t=.int .i64 i∧Ext w wr∧Hid (OwnP w.heap.size wr (.slice (some ⟨w.heap.size,0,none⟩) n n) L)∧Hid (TimesS p q i L)) (fun t _=>p.length-(intOf t).toNat)
 case atStart=>exact ⟨0,_,by omega,rfl,hE1,HO0.out,HS0.out⟩
 case round =>
  obtain ⟨i,L,hi,rfl,hEw,HO,HS⟩:=hrel
  obtain ⟨wo,rfl⟩:∃ wo:World,wo=wr:=⟨_,rfl⟩
  clear HO0 HS0
  by_cases hlt:i<p.length
  ·obtain ⟨x,hx⟩:∃ x,p[i]?=some x:=⟨_,List.getElem?_eq_getElem hlt⟩
   obtain ⟨ba,oa,rfl,-,hca'⟩:=HU.out (by rintro rfl;simp at hlt)
   have g1:=hEw.cell (hca' i x hx)
   have hxb:=HP.out.get hx
   have HX:=Lib.hid hx
   have HK0:=Lib.hid (HS.out.enter x)
   clear hx hca'
   go_wp2_with fail
   clear g1
   go_loopw [26,8] (fun t c wr=>∃ (k cc:Nat) (L:List Nat),k≤q.length∧t=.int .i64 k∧c=.int .u64 cc∧cc<1000000000∧Ext w wr∧Hid (OwnP w.heap.size wr (.slice (some ⟨w.heap.size,0,none⟩) n n) L)∧Hid (TimesK p q i x k cc L)) (fun t _ _=>q.length-(intOf t).toNat)
   case atStart=>exact ⟨0,0,L,by omega,rfl,rfl,by omega,hEw,HO.out,HK0.out⟩
   case round =>
    obtain ⟨k,cc,L',hk,rfl,rfl,hcc,hEi,HOi,HKi⟩:=hrel
    obtain ⟨wi,rfl⟩:∃ wi:World,wi=wr:=⟨_,rfl⟩
    have hikn:i+q.length<n:=by have:=HN.out;omega
    have hLn:Hid (L'.length=n):=by unfold Hid;rw [HKi.out.len,HN.out]
    by_cases hkl:k<q.length
    ·obtain ⟨z,hz⟩:∃ z,q[k]?=some z:=⟨_,List.getElem?_eq_getElem hkl⟩
     obtain ⟨bb,ob,rfl,-,hcb'⟩:=HV.out (by rintro rfl;simp at hkl)
     have g2:=hEi.cell (hcb' k z hz)
     obtain ⟨y,hy⟩:∃ y,L'[i+k]?=some y:=⟨_,List.getElem?_eq_getElem (by have:=hLn.out;omega)⟩
     obtain ⟨g3,f3⟩:=HOi.out.get hy
     have hyb:=HKi.out.pcs.get hy
     have hzb:=HQ.out.get hz
     have hm:=mul_piece hxb hzb
     obtain ⟨m,hmm⟩:∃ m,x*z=m:=⟨_,rfl⟩
     rw [hmm] at hm
     have hmi:(x:Int)*(z:Int)=(m:Int):=by rw [← hmm];exact (Int.natCast_mul _ _).symm
     obtain ⟨c',hc'⟩:∃ c',c'=cc+y+m:=⟨_,rfl⟩
     have hci:(cc:Int)+((y:Int)+(m:Int))=(c':Int):=by omega
     obtain ⟨r,hr⟩:∃ r,r=c'%1000000000:=⟨_,rfl⟩
     obtain ⟨d,hd⟩:∃ d,d=c' / 1000000000:=⟨_,rfl⟩
     have hri:(c':Int)%1000000000=(r:Int):=by omega
     have hdi:(c':Int) / 1000000000=(d:Int):=by omega
     have hdb:d<1000000000:=by omega
     have hcb2:c'<1000000000000000000:=by omega
     have hrb:r<1000000000:=by omega
     have HK2:Hid (TimesK p q i x (k+1) d (L'.set (i+k) r)):=by
      unfold Hid;rw [hd]
      exact HKi.out.step hz hy hxb (by rw [hc',hmm]) (by omega) hr
     have HO2:=Lib.hid (HOi.out.set (i+k) r)
     have hik:i+k<n:=by omega
     have hszi:w.heap.size≤wi.heap.size:=hEi.size
     clear hz hy hcb' hmm hc' hr hd
     go_wp2_with fail
     go_roundw
     case rel=>exact ⟨k+1,d,_,by omega,by go_num,rfl,hdb,Below.setCell hEi (p:=⟨w.heap.size,i+k,none⟩) (Nat.le_refl _) _,HO2.out,HK2.out⟩
     case measure=>simp [intOf];omega
    ·obtain rfl:q.length=k:=by omega
     have hend:=HKi.out.leave HX.out
     obtain ⟨g3,f3⟩:=HOi.out.get hend.2
     have HS2:=Lib.hid hend.1
     have HO2:=Lib.hid (HOi.out.set (i+q.length) cc)
     clear hend
     go_wp2_with fail
     go_roundw
     case rel=>exact ⟨i+1,_,by omega,by go_num,Below.setCell hEi (p:=⟨w.heap.size,i+q.length,none⟩) (Nat.le_refl _) _,HO2.out,HS2.out⟩
     case measure=>simp [intOf];omega
  ·obtain rfl:p.length=i:=by omega
   have HT:=Lib.hid (trim_any w.heap.size L _ wo HO.out HS.out.pcs)
   have HV:=HS.out.val
   rw [List.take_length] at HV
   have HV:=Lib.hid HV
   have HL:=Lib.hid HS.out.len
   go_wp2_with fail
   refine HT.out.mono ?_
   rintro e w5 ⟨r,l,rfl,hr,kk,rfl⟩
   have HR:=Lib.hid hr
   clear hr HT
   go_wp2_with fail
   go_ret
   exact ⟨r,l,rfl,⟨HR.out.out.1,HR.out.out.2.1,HR.out.out.2.2.1.trans HV.out,by rw [← HL.out];exact HR.out.out.2.2.2⟩,Ext.draws hEw _⟩
set_option maxRecDepth 100000 in
set_option maxHeartbeats 400000 in
theorem scaled_any (p:List Nat) (n:Nat) (u:Value) (w:World) (hu:PcsAt w u p) (hp:Pcs p) (hn:n<1000000000) (hn0:0<n) (hlp:p.length≤5000000000) :
  Calls Tryz.prog 212 #[u,.int .u64 n] w fun e w'=>∃ r l,e=.returned r∧Hid (OwnP w.heap.size w' r l∧Can l∧lv l=lv p*n∧l.length≤p.length+1)∧Ext w w':=by
 have HU:=Lib.hid hu
 have HP:=Lib.hid hp
 have HO:Hid (OwnP w.heap.size (w.alloc (.cells #[.int .u64 n] 204)) (.slice (some ⟨w.heap.size,0,none⟩) 1 1) [n]):=by
  have:=World.ownsRow_lit (e:=204) (size:=1) w #[Value.int .u64 n] 1 (Nat.le_refl _) (by unfold maxLen;omega) rfl
  exact this
 have HPN:Hid (Pcs [n]):=Pcs.cons hn Pcs.nil
 have HT:=Lib.hid (trim_any w.heap.size [n] _ _ HO.out HPN.out)
 clear hu hp
 go_enter Tryz.func212,Tryz.ntmps212
 go_wp2_with fail
 refine HT.out.mono ?_
 rintro e w1 ⟨r,l,rfl,hr,kk,rfl⟩
 have HR:=Lib.hid hr
 have HE1:Hid (Ext w ((w.alloc (.cells #[.int .u64 n] 204)).drewN kk)):=Ext.draws (Ext.alloc _ _) _
 have HM:=Lib.hid (times_any p l u r _ (PcsAt.ext HU.out HE1.out) HR.out.out.1.at HP.out HR.out.out.2.1.1 hlp (by have:=HR.out.out.2.2.2;simp at this;omega))
 clear hr HT
 go_wp2_with fail
 refine HM.out.mono ?_
 rintro e w2 ⟨r2,l2,rfl,hr2,hE2⟩
 have HR2:=Lib.hid hr2
 have HE2:=Lib.hid (Ext.trans HE1.out hE2)
 clear hr2 hE2 HM
 go_wp2_with fail
 go_ret
 refine ⟨r2,l2,rfl,⟨HR2.out.out.1.base HE1.out.size,HR2.out.out.2.1,?_,?_⟩,HE2.out⟩
 ·rw [HR2.out.out.2.2.1,HR.out.out.2.2.1,lv_cons,lv_nil,Nat.mul_zero,Nat.add_zero]
 ·have h1:=HR2.out.out.2.2.2
  have h2:=HR.out.out.2.2.2
  simp at h2;omega
structure SmallS (p:List Nat) (n k rest:Nat) (L:List Nat):Prop where
 len:L.length=p.length
 pcs:Pcs L
 lt:rest<n
 val:lv (p.drop k)=n*lv (L.drop k)+rest
theorem SmallS.start (p:List Nat) {n:Nat} (hn:0<n):SmallS p n p.length 0 (List.replicate p.length 0) :=
 ⟨by simp,Pcs.zeros _,hn,by rw [List.drop_length,List.drop_eq_nil_of_le (by simp),lv_nil];simp⟩
theorem SmallS.step {p L:List Nat} {n k rest x:Nat} (h:SmallS p n (k+1) rest L) (hp:Pcs p) (hx:p[k]?=some x) (hn:0<n) :
  SmallS p n k ((rest*1000000000+x)%n) (L.set k ((rest*1000000000+x) / n)):=by
 have hk:=(List.getElem?_eq_some_iff.1 hx).1
 refine ⟨by rw [List.length_set];exact h.len,h.pcs.set _ _ (small_lt h.lt (hp.get hx)),Nat.mod_lt _ hn,?_⟩
 have e:lv ((L.set k ((rest*1000000000+x) / n)).drop k)=(rest*1000000000+x) / n+1000000000*lv (L.drop (k+1)):=by
  rw [lv_drop_succ (k:=k) (x:=(rest*1000000000+x) / n) (by rw [List.getElem?_set,if_pos rfl,if_pos (by rw [h.len];exact hk)])]
  rw [List.drop_set_of_lt (by omega)]
 rw [e]
 exact small_round h.val (lv_drop_succ hx) hn
set_option maxRecDepth 100000 in
set_option maxHeartbeats 2000000 in
theorem small_any (p:List Nat) (n:Nat) (u:Value) (w:World) (hu:PcsAt w u p) (hp:Pcs p) (hn:n<1000000000) (hn0:0<n) (hlp:p.length≤10000000000) :
  Calls Tryz.prog 193 #[u,.int .u64 n] w fun e w'=>∃ r l,e=.returned (.tuple #[r,.int .u64 ((lv p%n:Nat):Int)])∧Hid (OwnP w.heap.size w' r l∧Can l∧lv l=lv p / n∧l.length≤p.length)∧Ext w w':=by
 obtain ⟨a,ca,rfl,hla,hca,hcu⟩:=hu.open
 have HP:=Lib.hid hp
 have HU:=Lib.hid hcu
 obtain ⟨i0,hi,hz0,hz1,hz2⟩:=info_parts infoU64
 have HI:=Lib.hid hi;have HZ0:=Lib.hid hz0;have HZ1:=Lib.hid hz1;have HZ2:=Lib.hid hz2
 have HS0:=Lib.hid (SmallS.start p hn0)
 have hnz:((n:Int) == 0)=false:=by rw [beq_eq_false_iff_ne];omega
 have hnz2:¬ (n:Int)=0:=by omega
 clear hi hz0 hz1 hz2 hu hcu hp
 go_enter Tryz.func193,Tryz.ntmps193
 go_wp2_with (at_make;refine wpList_make_full _ rfl _ _ 209 rfl w.heap.size 204 i0 (.int .u64 0) 1 Tryz.underlying209 HI.out HZ0.out HZ1.out _ _ _ _ p.length rfl rfl rfl rfl ?c1 ?c2 ?c3 ?_)
 case c1=>rw [HZ2.out];omega
 case c2=>unfold maxLen;omega
 case c3=>exact Nat.le_refl _
 intro w1 hown hgrow
 have hE1:=ext_grown hgrow
 have HO0:=Lib.hid (OwnP.made hown)
 clear hown hgrow
 go_wp2_with fail
 go_loopw [7,8] (fun r t wr=>∃ (rr:Nat) (y:Int) (L:List Nat),r=.int .u64 rr∧t=.int .i64 y∧rr<n∧y<p.length∧-2<y∧Ext w wr∧Hid (OwnP w.heap.size wr (.slice (some ⟨w.heap.size,0,none⟩) p.length p.length) L)∧Hid (∃ k:Nat,y+1=k∧SmallS p n k rr L)) (fun _ t _=>(intOf t+1).toNat)
 case atStart=>exact ⟨0,_,_,rfl,rfl,hn0,by omega,by omega,hE1,HO0.out,⟨p.length,by omega,HS0.out⟩⟩
 case round =>
  obtain ⟨rr,y,L,rfl,rfl,hrr,hy1,hy2,hEw,HO,HS⟩:=hrel
  obtain ⟨wo,rfl⟩:∃ wo:World,wo=wr:=⟨_,rfl⟩
  clear HO0 HS0
  by_cases hlt:0≤y
  ·obtain ⟨j,rfl⟩:∃ j:Nat,y=j:=⟨y.toNat,by omega⟩
   have hjp:j<p.length:=by omega
   obtain ⟨x,hx⟩:∃ x,p[j]?=some x:=⟨_,List.getElem?_eq_getElem hjp⟩
   obtain ⟨ba,oa,rfl,-,hca'⟩:=HU.out (by rintro rfl;simp at hjp)
   have g1:=hEw.cell (hca' j x hx)
   have hxb:=HP.out.get hx
   have HSJ:Hid (SmallS p n (j+1) rr L):=by
    obtain ⟨k,e,h⟩:=HS.out
    have:k=j+1:=by omega
    rw [this] at h;exact h
   obtain ⟨z,hz⟩:∃ z,L[j]?=some z:=⟨_,List.getElem?_eq_getElem (by rw [HSJ.out.len];exact hjp)⟩
   obtain ⟨g3,f3⟩:=HO.out.get hz
   obtain ⟨t,ht⟩:∃ t,t=rr*1000000000+x:=⟨_,rfl⟩
   have hti:(rr:Int)*1000000000+(x:Int)=(t:Int):=by omega
   have htb:t<1000000000000000000:=by omega
   obtain ⟨q,hq⟩:∃ q,q=t / n:=⟨_,rfl⟩
   obtain ⟨m,hm⟩:∃ m,m=t%n:=⟨_,rfl⟩
   have hqi:(t:Int) / (n:Int)=(q:Int):=by rw [hq];exact (Int.natCast_ediv _ _).symm
   have hmi:(t:Int)%(n:Int)=(m:Int):=by rw [hm];exact (Int.natCast_emod _ _).symm
   have hqi2:(t:Int).tdiv (n:Int)=(q:Int):=by rw [Int.tdiv_eq_ediv_of_nonneg (by omega),hqi]
   have hmi2:(t:Int).tmod (n:Int)=(m:Int):=by rw [Int.tmod_eq_emod_of_nonneg (by omega),hmi]
   have hmn:m<n:=by rw [hm];exact Nat.mod_lt _ hn0
   have HS2:Hid (SmallS p n j m (L.set j q)):=by
    unfold Hid;rw [hq,hm,ht];exact HSJ.out.step HP.out hx hn0
   have hqb:q<1000000000:=by rw [hq,ht];exact small_lt hrr hxb
   have HO2:=Lib.hid (HO.out.set j q)
   have HHE:Hid (∃ k:Nat,((j:Int)-1)+1=k∧SmallS p n k m (L.set j q)):=⟨j,by omega,HS2.out⟩
   clear hx hca' hz ht hq hm
   go_wp2_with fail
   go_roundw
   case rel=>exact ⟨m,_,_,rfl,rfl,hmn,by omega,by omega,Below.setCell hEw (p:=⟨w.heap.size,j,none⟩) (Nat.le_refl _) _,HO2.out,HHE.out⟩
   case measure=>simp [intOf]
  ·have HSZ:Hid (SmallS p n 0 rr L):=by
    obtain ⟨k,e,h⟩:=HS.out
    have:k=0:=by omega
    rw [this] at h;exact h
   have hv:=HSZ.out.val
   rw [List.drop_zero,List.drop_zero] at hv
   have HQ:Hid (lv L=lv p / n∧rr=lv p%n):=by
    unfold Hid
    rw [hv,Nat.mul_add_div hn0,Nat.mul_add_mod,Nat.div_eq_of_lt hrr,Nat.mod_eq_of_lt hrr]
    omega
   have HT:=Lib.hid (trim_any w.heap.size L _ wo HO.out HSZ.out.pcs)
   clear hv
   go_wp2_with fail
   refine HT.out.mono ?_
   rintro e w5 ⟨r,l,rfl,hr,kk,rfl⟩
   have HR:=Lib.hid hr
   clear hr HT
   go_wp2_with fail
   go_ret2
   exact ⟨r,l,by rw [← HQ.out.2];rfl,⟨HR.out.out.1,HR.out.out.2.1,HR.out.out.2.2.1.trans HQ.out.1,by rw [← HSZ.out.len];exact HR.out.out.2.2.2⟩,Ext.draws hEw _⟩
end Go.Proofs.YtjlkkofmojgipaaGreatDoor
