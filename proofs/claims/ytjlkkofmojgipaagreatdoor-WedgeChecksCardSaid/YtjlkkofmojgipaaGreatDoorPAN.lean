import Derived.Test.YtjlkkofmojgipaaGreatDoorPAL
import Derived.Test.YtjlkkofmojgipaaGreatDoorPAM
import Derived.Test.YtjlkkofmojgipaaGreatDoorPAA
import Derived.Lib.SliceRun
import Derived.WalkSpells
import Derived.Laws.AppendOwnNone
namespace Go.Proofs.YtjlkkofmojgipaaGreatDoor
set_option linter.unusedVariables false
set_option linter.unusedSimpArgs false
def rowQI (r:List Int):List Rat:=r.map fun x:Int=>(x:Rat)
theorem rowQI_len (r:List Int):(rowQI r).length=r.length:=by simp [rowQI]
def matQ (m:List (List Int)):List (List Rat):=m.map rowQI
theorem matQ_len (m:List (List Int)):(matQ m).length=m.length:=by simp [matQ]
structure UnitQ (m:List (List Rat)):Prop where
 val:∀ i j,elQ m i j=0∨elQ m i j=1
 one:∀ i i' j,elQ m i j=1→elQ m i' j=1→i=i'
theorem elQ_out {m:List (List Rat)} {i c:Nat} (h:m.length≤i):elQ m i c=0:=by
 unfold elQ rowQ
 rw [List.getD_eq_getElem?_getD (l:=m),List.getElem?_eq_none h]
 simp
theorem elQ_swp {m:List (List Rat)} {a b:Nat} (ha:a<m.length) (hb:b<m.length) (i j:Nat):elQ (swp m a b) i j=elQ m (if i=b then a else if i=a then b else i) j:=by
 unfold elQ rowQ
 rw [List.getD_eq_getElem?_getD (l:=swp m a b),List.getD_eq_getElem?_getD (l:=m),swp_get (List.getElem?_eq_getElem ha) (List.getElem?_eq_getElem hb)]
 by_cases h1:i=b
 ·rw [if_pos h1,if_pos h1,List.getElem?_eq_getElem ha]
 ·rw [if_neg h1,if_neg h1]
  by_cases h2:i=a
  ·rw [if_pos h2,if_pos h2,List.getElem?_eq_getElem hb]
  ·rw [if_neg h2,if_neg h2]
theorem UnitQ.swp {m:List (List Rat)} (h:UnitQ m) {a b:Nat} (ha:a<m.length) (hb:b<m.length):UnitQ (Proofs.YtjlkkofmojgipaaGreatDoor.swp m a b):=by
 refine ⟨fun i j=>by rw [elQ_swp ha hb];exact h.val _ _,fun i i' j h1 h2=>?_⟩
 rw [elQ_swp ha hb] at h1 h2
 have e:=h.one _ _ _ h1 h2
 repeat' split at e
 all_goals omega
theorem findP_spec (m:List (List Rat)) (c:Nat):∀ (f a:Nat),a≤findP m c f a∧findP m c f a≤a+f∧(∀ j,a≤j→j<findP m c f a→elQ m j c=0)∧(findP m c f a<a+f→elQ m (findP m c f a) c≠0)
 | 0,a=>⟨Nat.le_refl _,Nat.le_refl _,fun j h1 h2=>by have:j<a:=h2;omega,fun h=>by have:a<a+0:=h;omega⟩
 | f+1,a=>by
  unfold findP
  by_cases h:elQ m a c=0
  ·rw [if_pos h]
   obtain ⟨h1,h2,h3,h4⟩:=findP_spec m c f (a+1)
   refine ⟨by omega,by omega,fun j hj1 hj2=>?_,fun hh=>h4 (by omega)⟩
   by_cases e:j=a
   ·rw [e];exact h
   ·exact h3 j (by omega) hj2
  ·rw [if_neg h]
   exact ⟨Nat.le_refl _,by omega,fun j h1 h2=>by omega,fun _=>h⟩
theorem UnitQ.rs {m:List (List Rat)} (h:UnitQ m):AllRS 2500 m:=by
 intro r hr x hx
 obtain ⟨i,hi⟩:=List.getElem?_of_mem hr
 obtain ⟨j,hj⟩:=List.getElem?_of_mem hx
 have e:elQ m i j=x:=elQ_get (by rw [rowQ_get hi];exact hj)
 have hs:(intB 1).size≤2∧(intB 0).size≤2∧(numB 1).size≤2:=by
  unfold intB numB Lib.itoa
  rw [if_neg (by omega),if_neg (by omega),show (1:Int).toNat=1 from rfl,show (0:Int).toNat=0 from rfl,Lib.decDigits_one (by omega),Lib.decDigits_one (by omega)]
  exact ⟨by decide,by decide,by decide⟩
 rcases h.val i j with h0 | h0
 ·rw [← e,h0]
  exact ⟨Nat.le_trans hs.2.1 (by omega),Nat.le_trans hs.2.2 (by omega)⟩
 ·rw [← e,h0]
  exact ⟨Nat.le_trans hs.1 (by omega),Nat.le_trans hs.2.2 (by omega)⟩
end Go.Proofs.YtjlkkofmojgipaaGreatDoor
namespace Go.Proofs.YtjlkkofmojgipaaGreatDoor
set_option linter.unusedVariables false
set_option linter.unusedSimpArgs false
open Go.RowKit
def rowsTo (xss:List (List Int)) (mo:Nat→List Rat) (i:Nat):List (List Rat):=(List.range i).map fun k=>rowQI (xss.getD k [])++mo k
theorem rowsTo_succ {xss:List (List Int)} {mo:Nat→List Rat} {i:Nat} {r:List Int} (h:xss[i]?=some r):rowsTo xss mo (i+1)=rowsTo xss mo i++[rowQI r++mo i]:=by
 unfold rowsTo
 rw [List.range_succ,List.map_append,List.map_cons,List.map_nil,List.getD_eq_getElem?_getD (l:=xss),h]
 rfl
theorem rowsTo_len (xss:List (List Int)) (mo:Nat→List Rat) (i:Nat):(rowsTo xss mo i).length=i:=by simp [rowsTo]
theorem rowQI_take {r:List Int} {k:Nat} {x:Int} (h:r[k]?=some x):rowQI (r.take (k+1))=rowQI (r.take k)++[(x:Rat)]:=by
 unfold rowQI
 rw [List.take_add_one,h,List.map_append]
 rfl
def MoreAt (g:Nat) (lb:Array Value) (n:Nat) (mo:Nat→List Rat) (w:World):Prop :=
 ∀ (i:Nat) W,i<n→Ext w W→Calls Tryz.prog g (#[.int .i64 (i:Int)]++lb) W fun e W'=>∃ u,e=.returned u∧Rats W' u (mo i)∧Ext W W'
set_option maxRecDepth 100000 in
set_option maxHeartbeats 4000000 in
theorem rows_any (xss:List (List Int)) (v:Value) (g:Nat) (lb:Array Value) (mo:Nat→List Rat) (w:World) (h:Rows2 w v xss) (hl:xss.length≤1000) (hr:∀ r∈xss,r.length≤1000)
  (hmo:∀ i r,xss[i]?=some r→0<r.length+(mo i).length∧(mo i).length≤1000) (eg:∀ args w,(callFunc g args).run Tryz.prog w=.ok (.enter g args) w) (hm:MoreAt g lb xss.length mo w) (ht:Pow10 w) :
  Calls Tryz.prog 110 #[v,.func (.func g) #[] lb] w fun e w'=>∃ u tags,e=.returned u∧RowsO ratK 197 w' w.heap.size w.heap.size u tags (rowsTo xss mo xss.length)∧Ext w w':=by
 obtain ⟨a,c,rfl,h1,h2,-,hc⟩:=inCell.open h
 have HC:=Lib.hid hc;have HM:=Lib.hid hm;have HT:=Lib.hid ht;have HR:=Lib.hid hr;have HMO:=Lib.hid hmo
 unfold maxLen at h2
 clear h hc hm ht hr hmo
 go_enter Tryz.func110,Tryz.ntmps110
 go_wp2_with fail
 go_loopw [13,5] (fun t v wr=>∃ (i:Nat) (tags:List (Nat×Nat)),i≤xss.length∧t=.int .i64 i∧Ext w wr∧Hid (RowsO ratK 197 wr w.heap.size w.heap.size v tags (rowsTo xss mo i))) (fun t _ _=>xss.length-(intOf t).toNat)
 case atStart=>exact ⟨0,[],by omega,rfl,Ext.refl _,RowsO.nil _ _ _ _ _⟩
 case round =>
  obtain ⟨i,tags,hin,rfl,hE,HO⟩:=hrel
  obtain ⟨wo,rfl⟩:∃ wo:World,wo=wr:=⟨_,rfl⟩
  have HE:=Lib.hid hE
  by_cases hlt:i<xss.length
  ·obtain ⟨b,off,rfl,hb,hcell⟩:=HC.out (by intro e;simp [e] at hlt)
   obtain ⟨r,hx⟩:∃ x,xss[i]?=some x:=⟨xss[i],List.getElem?_eq_getElem hlt⟩
   obtain ⟨vx,hvx,hcx⟩:=hcell i r hx
   obtain ⟨ax,cx,rfl,k1,k2,-,hbd,kc⟩:=Ints.open hvx
   have g1:=hE.cell hcx
   have HX:=Lib.hid (Ints.ext hvx hE)
   have HK:=Lib.hid kc;have HBD:=Lib.hid hbd;have HI:=Lib.hid hx
   have HSU:=Lib.hid (rowsTo_succ (mo:=mo) hx)
   have hrl:=HR.out r (List.mem_of_getElem? hx)
   have HMI:=Lib.hid (HMO.out i r hx)
   unfold maxLen at k2
   clear hcell hx hvx hcx kc hbd
   go_wp2_with fail
   clear g1
   go_loopw [20,8] (fun t v wr=>∃ k:Nat,k≤r.length∧t=.int .i64 k∧Hid (Ext wo wr)∧Hid (OwnQ wo.heap.size wr v (rowQI (r.take k)))) (fun t _ _=>r.length-(intOf t).toNat)
   case atStart=>exact ⟨0,by omega,rfl,Ext.refl _,OwnQ.nil _ _⟩
   case round =>
    obtain ⟨k,hk,rfl,HEI,HQ⟩:=hrel
    obtain ⟨wi,rfl⟩:∃ wi:World,wi=wr:=⟨_,rfl⟩
    by_cases hlk:k<r.length
    ·obtain ⟨bx,offx,rfl,hbx,hcellx⟩:=HK.out (by intro e;simp [e] at hlk)
     obtain ⟨x,hx⟩:∃ x,r[k]?=some x:=⟨r[k],List.getElem?_eq_getElem hlk⟩
     have g1:=(HE.out.trans HEI.out).cell (hcellx k x hx)
     have HTK:=Lib.hid (rowQI_take hx)
     have hb:=HBD.out x (List.mem_of_getElem? hx)
     have HOF:=Lib.hid (of_any x wi hb.1 hb.2 (HT.out.ext (HE.out.trans HEI.out)))
     clear hcellx hx hb
     go_wp2_with fail
     refine HOF.out.mono ?_
     rintro e w1 ⟨rfl,hE1⟩
     have HQ1:=Lib.hid (HQ.out.ext hE1)
     have HX1:=Lib.hid (Ext.trans HEI.out hE1)
     have HQ2:Hid (OwnQ wo.heap.size (w1.alloc (.cells #[.string (intB x),.string ⟨#[49]⟩] 152)) u8 (rowQI (r.take k))):=HQ1.out.ext (Ext.alloc _ _)
     have HU:Hid (Rats (w1.alloc (.cells #[.string (intB x),.string ⟨#[49]⟩] 152)) (.slice (some ⟨w1.heap.size,0,none⟩) 1 1) [(x:Rat)]):=by
      have:=Rats.one w1 (x:Rat) 152
      rw [show ((x:Rat)).num=x from rfl,show ((x:Rat)).den=1 from rfl,numB_one] at this
      exact this
     have hs1:wo.heap.size≤(w1.alloc (.cells #[.string (intB x),.string ⟨#[49]⟩] 152)).heap.size:=by
      have:=HX1.out.size
      rw [World.size_alloc];omega
     have HS1:=Lib.hid hs1
     have HLE:Hid ((rowQI (r.take k)).length+[(x:Rat)].length<1000000):=by
      unfold Hid
      rw [rowQI_len,List.length_take];simp;omega
     clear hE1 HOF g1 hs1
     go_wp2_with (at_builtin;go_must (refine wpList_append_rats _ rfl _ _ rfl wo.heap.size u8 _ (rowQI (r.take k)) [(x:Rat)] rfl HQ2.out rfl HU.out HLE.out HS1.out ?_))
     intro v' w2 hQ2 hb2 _
     rw [← HTK.out] at hQ2
     have HQ3:=Lib.hid hQ2
     have HX2:Hid (Ext wo w2):=Below.trans (Ext.trans HX1.out (Ext.alloc w1 (.cells #[.string (intB x),.string ⟨#[49]⟩] 152))) hb2
     clear hQ2 hb2
     go_wp2_with fail
     go_roundw
     case rel=>exact ⟨k+1,by omega,by go_num,HX2.out,HQ3.out⟩
     case measure=>simp [intOf];omega
    ·obtain rfl:k=r.length:=by omega
     rw [List.take_length] at HQ
     have HCALL:=Lib.hid (HM.out i wi hlt (HE.out.trans HEI.out))
     go_wp2_with fail
     refine HCALL.out.mono ?_
     rintro e w1 ⟨um,rfl,hum,hE1⟩
     have HQ1:=Lib.hid (HQ.out.ext hE1)
     have HX1:=Lib.hid (Ext.trans HEI.out hE1)
     have HUM:=Lib.hid hum
     have HLE:Hid ((rowQI r).length+(mo i).length<1000000):=by
      unfold Hid
      have:=HMI.out.2
      rw [rowQI_len];omega
     have HS1:=Lib.hid HX1.out.size
     clear hE1 HCALL hum
     go_wp2_with (at_builtin;go_must (refine wpList_append_rats _ rfl _ _ rfl wo.heap.size u8 _ (rowQI r) (mo i) rfl HQ1.out rfl HUM.out HLE.out HS1.out ?_))
     intro v' w2 hQ2 hb2 _
     have HX2:Hid (Ext wo w2):=Below.trans HX1.out hb2
     obtain ⟨gq,cq,rfl,d1,d2,d3,d4⟩:=owns_shape hQ2 (by rw [List.length_append,rowQI_len];exact HMI.out.1)
     have HRQ:=Lib.hid hQ2.row
     obtain ⟨nq,hnq⟩:∃ nq,nq=(rowQI r++mo i).length:=⟨_,rfl⟩
     rw [← hnq] at d3 ⊢
     have HNQ:=Lib.hid hnq
     have HO2:=Lib.hid (HO.out.ext HX2.out)
     have HV:Hid (u5.ownBlock≠some gq):=fun e=>by have:=(HO.out.own.lt _ e).2;omega
     have HN:Hid (gq∉tags.map (·.1)):=fun e=>by have:=(HO.out.fresh e).2;omega
     have HSZ:Hid (w.heap.size≤gq∧w.heap.size≤w2.heap.size):=by
      have h1:=HE.out.size;have h2:=HX2.out.size
      exact ⟨by omega,by omega⟩
     have HLN:Hid ((rowsTo xss mo i).length<1000000):=by unfold Hid;rw [rowsTo_len];omega
     have HCP:Hid ((rowQI r++mo i).length≤cq∧cq≤9223372036854775807):=⟨by rw [← hnq];exact d3,d4⟩
     clear hQ2 hb2 d1 d2 d3 d4 hnq
     go_wp2_with (at_builtin;go_must (refine wpList_append_rowO (K:=ratK) (e:=197) Tryz.underlying155 infoRats _ rfl _ _ rfl w.heap.size w.heap.size u5 tags (rowsTo xss mo i) (gq,cq) (rowQI r++mo i) #[.slice (some ⟨gq,0,none⟩) nq cq] 197 rfl HO2.out (by rfl) (by rw [HNQ.out];rfl) HCP.out.1 HCP.out.2 HRQ.out HSZ.out.1 HV.out HN.out HLN.out HSZ.out.2 ?_))
     intro v' w5 hO5 hb5 _
     rw [← HSU.out] at hO5
     have HO5:=Lib.hid hO5
     have HX5:=Lib.hid (Below.trans (Ext.trans HE.out HX2.out) hb5)
     clear hO5 hb5
     go_wp2_with fail
     go_roundw
     case rel=>exact ⟨i+1,_,by omega,by go_num,HX5.out,HO5.out⟩
     case measure=>simp [intOf];omega
  ·obtain rfl:i=xss.length:=by omega
   go_wp2_with fail
   go_ret
   exact ⟨_,tags,rfl,HO.out,hE⟩
theorem nothing_any (i:Int) (w:World):Calls Tryz.prog 111 #[.int .i64 i] w fun e w'=>e=.returned (.slice none 0 0)∧w=w':=by
 go_enter Tryz.func111,Tryz.ntmps111
 go_wp2
 go_ret
 exact ⟨rfl,rfl⟩
theorem Rats.nil (w:World):Rats w (.slice none 0 0) []:=⟨[],rfl,by simp,⟨none,0,rfl,Nat.le_refl _,Nat.zero_le _,fun _=>rfl,fun h=>absurd rfl h⟩,by simp⟩
theorem nothing_more (n:Nat) (w:World):MoreAt 111 #[] n (fun _=>[]) w:=fun i W _ _ =>
 (nothing_any i W).mono fun e W' ⟨h1,h2⟩=>⟨_,h1,Rats.nil _,h2▸Ext.refl _⟩
def idxRow (p:Int→Bool) (xs:List Int):Int:=match xs.findIdx? p with | some i=>(i:Int) | none=>-1
def PredRow (g:Nat) (lb:Array Value) (p:Int→Bool) (w:World) (xs:List Int):Prop :=
 ∀ W x,x∈xs→Ext w W→Calls Tryz.prog g (#[.int .i64 x]++lb) W fun e W'=>e=.returned (.bool (p x))∧Ext W W'
set_option maxHeartbeats 400000 in
theorem indexFuncRow_any (xs:List Int) (v:Value) (g:Nat) (lb:Array Value) (p:Int→Bool) (w:World) (h:Ints w v xs) (eg:∀ args w,(callFunc g args).run Tryz.prog w=.ok (.enter g args) w) (hp:PredRow g lb p w xs) :
  Calls Tryz.prog 116 #[v,.func (.func g) #[] lb] w fun e w'=>e=.returned (.int .i64 (idxRow p xs))∧Ext w w':=by
 obtain ⟨a,c,rfl,h1,h2,-,hxb,hc⟩:=h.open
 have HC:=Lib.hid hc;have HPR:=Lib.hid hp
 clear hc h hxb hp
 unfold maxLen at h2
 go_enter Tryz.func116,Tryz.ntmps116
 go_wp2
 go_loopw [8] (fun t wr=>∃ pre rest,t=.int .i64 (pre.length:Nat)∧Ext w wr∧Hid (xs=pre++rest)∧Hid (∀ x∈pre,p x=false)) (fun t _=>xs.length-(intOf t).toNat)
 case atStart=>exact ⟨[],xs,rfl,Ext.refl _,rfl,by intro x hx;simp at hx⟩
 case round =>
  obtain ⟨pre,rest,rfl,hE,HP,HA⟩:=hrel
  have hlen:xs.length=pre.length+rest.length:=by rw [HP.out];simp
  cases rest with
  | nil =>
   have:¬ (pre.length<xs.length):=by simp at hlen;omega
   clear hlen
   go_wp2
   go_ret
   have:idxRow p xs=-1:=by
    have:xs.findIdx? p=none:=by rw [HP.out,List.append_nil,List.findIdx?_eq_none_iff];exact HA.out
    unfold idxRow;rw [this]
   rw [this]
   exact ⟨rfl,hE⟩
  | cons x rest =>
   have hlt:pre.length<xs.length:=by simp at hlen;omega
   clear hlen
   obtain ⟨b,off,rfl,hb,hcell⟩:=HC.out (by rw [HP.out];simp)
   have g1:=hE.cell (hcell pre.length x (by rw [HP.out];simp))
   clear hcell
   have hcall:=fun W he=>HPR.out W x (by rw [HP.out];simp) he
   cases hq:p x with
   | true =>
    have HR:Hid (idxRow p xs=pre.length):=by
     unfold Hid idxRow
     rw [HP.out,List.findIdx?_append,(List.findIdx?_eq_none_iff (xs:=pre)).2 HA.out,List.findIdx?_cons,hq]
     simp
    rw [hq] at hcall
    have HCALL:=Lib.hid hcall
    clear hcall hq
    go_wp2_with (go_at_fn g;refine (HCALL.out _ hE).mono ?_;rintro e w' ⟨rfl,hE'⟩)
    go_ret
    rw [HR.out]
    exact ⟨rfl,hE.trans (by assumption)⟩
   | false =>
    have HA':Hid (∀ y∈pre++[x],p y=false):=by
     intro y hy
     rcases List.mem_append.1 hy with hy | hy
     ·exact HA.out y hy
     ·rw [List.mem_singleton.1 hy];exact hq
    rw [hq] at hcall
    have HCALL:=Lib.hid hcall
    clear hcall hq
    go_wp2_with (go_at_fn g;refine (HCALL.out _ hE).mono ?_;rintro e w' ⟨rfl,hE'⟩)
    go_roundw
    case rel=>exact ⟨pre++[x],rest,by simp,hE.trans (by assumption),by unfold Hid;rw [HP.out];simp,HA'⟩
    case measure=>simp [intOf];omega
theorem containsRow_any (xs:List Int) (v:Value) (g:Nat) (lb:Array Value) (p:Int→Bool) (w:World) (h:Ints w v xs) (eg:∀ args w,(callFunc g args).run Tryz.prog w=.ok (.enter g args) w) (hp:PredRow g lb p w xs) :
  Calls Tryz.prog 57 #[v,.func (.func g) #[] lb] w fun e w'=>e=.returned (.bool (xs.any p))∧Ext w w':=by
 have hcall:=indexFuncRow_any xs v g lb p w h eg hp
 cases hf:xs.findIdx? p with
 | none =>
  have HR:Hid (xs.any p=false):=by
   unfold Hid
   rw [List.findIdx?_eq_none_iff] at hf
   simpa using hf
  unfold idxRow at hcall
  rw [hf] at hcall
  have HCALL:=Lib.hid hcall
  clear hcall hf hp h
  go_enter Tryz.func57,Tryz.ntmps57
  go_wp2_with (go_at_call 116;refine HCALL.out.mono ?_;rintro e w' ⟨rfl,hE'⟩)
  go_ret
  rw [HR.out]
  exact ⟨rfl,by assumption⟩
 | some i =>
  have HR:Hid (xs.any p=true):=by
   unfold Hid
   rw [List.any_eq_true]
   obtain ⟨hi,hpi,_⟩:=List.findIdx?_eq_some_iff_getElem.1 hf
   exact ⟨_,List.getElem_mem hi,hpi⟩
  have hi0:(0:Int)≤(i:Int):=by omega
  unfold idxRow at hcall
  rw [hf] at hcall
  have HCALL:=Lib.hid hcall
  clear hcall hf hp h
  go_enter Tryz.func57,Tryz.ntmps57
  go_wp2_with (go_at_call 116;refine HCALL.out.mono ?_;rintro e w' ⟨rfl,hE'⟩)
  go_ret
  rw [HR.out]
  exact ⟨rfl,by assumption⟩
theorem drop_cons {α:Type} {xs:List α} {j:Nat} {x:α} (h:xs[j]?=some x):xs.drop j=x::xs.drop (j+1):=by
 obtain ⟨hj,rfl⟩:=List.getElem?_eq_some_iff.1 h
 exact List.drop_eq_getElem_cons hj
def fitB (n:Int):Bool:=decide (-1000000000≤n) && decide (n≤1000000000)
theorem fitB_iff (n:Int):fitB n=true↔-1000000000≤n∧n≤1000000000:=by simp [fitB]
theorem great_any (n:Int) (w:World):Calls Tryz.prog 105 #[.int .i64 n] w fun e w'=>e=.returned (.bool (!fitB n))∧w=w':=by
 by_cases h:n≤1000000000
 ·by_cases h2:-1000000000≤n
  ·go_enter Tryz.func105,Tryz.ntmps105
   go_wp2
   go_ret
   exact ⟨by simp [fitB,h,h2];try omega,rfl⟩
  ·go_enter Tryz.func105,Tryz.ntmps105
   go_wp2
   go_ret
   exact ⟨by simp [fitB,h,h2];try omega,rfl⟩
 ·go_enter Tryz.func105,Tryz.ntmps105
  go_wp2
  go_ret
  exact ⟨by simp [fitB,h];try omega,rfl⟩
def tabR (n:Nat):List (List Int)→Int
 | []=>0
 | r::l=>if 12<r.length then 4 else if r.length=n then (if r.any (fun x=>!fitB x) then 4 else tabR n l) else 5
def tabE (xss:List (List Int)):Int:=if 12<xss.length then 4 else tabR (xss.headD []).length xss
set_option maxRecDepth 100000 in
set_option maxHeartbeats 2000000 in
theorem tabCheck_any (xss:List (List Int)) (v:Value) (w:World) (h:Rows2 w v xss) :
  Calls Tryz.prog 53 #[v] w fun e w'=>e=.returned (.int .i64 (tabE xss))∧Ext w w':=by
 obtain ⟨a,c,rfl,h1,h2,-,hc⟩:=inCell.open h
 have HC:=Lib.hid hc
 unfold maxLen at h2
 clear h hc
 by_cases hl:12<xss.length
 ·have HT:Hid (tabE xss=4):=by unfold Hid tabE;rw [if_pos hl]
  have hl':(12:Int)<(xss.length:Int):=by omega
  go_enter Tryz.func53,Tryz.ntmps53
  go_wp2_with fail
  go_ret
  exact ⟨by rw [HT.out];rfl,Ext.refl _⟩
 ·have HT:Hid (tabE xss=tabR (xss.headD []).length xss):=by unfold Hid tabE;rw [if_neg hl]
  have hl':¬ (12:Int)<(xss.length:Int):=by omega
  obtain ⟨n,hn⟩:∃ n,n=(xss.headD []).length:=⟨_,rfl⟩
  rw [← hn] at HT
  have HN:=Lib.hid hn
  clear hn
  go_enter Tryz.func53,Tryz.ntmps53
  go_wp2_with fail
  go_loopw [10] (fun t wr=>∃ j:Nat,j≤xss.length∧t=.int .i64 j∧Ext w wr∧Hid (tabE xss=tabR n (xss.drop j))) (fun t _=>xss.length-(intOf t).toNat)
  case atStart=>exact ⟨0,by omega,rfl,Ext.refl _,HT.out⟩
  case round =>
   obtain ⟨j,hj,rfl,hE,HD⟩:=hrel
   obtain ⟨wo,rfl⟩:∃ wo:World,wo=wr:=⟨_,rfl⟩
   have HE:=Lib.hid hE
   by_cases hlt:j<xss.length
   ·obtain ⟨b,off,rfl,hb,hcell⟩:=HC.out (by intro e;simp [e] at hlt)
    obtain ⟨xs,hx⟩:∃ x,xss[j]?=some x:=⟨xss[j],List.getElem?_eq_getElem hlt⟩
    obtain ⟨ys,hy⟩:∃ y,xss[0]?=some y:=⟨xss[0]'(by omega),List.getElem?_eq_getElem _⟩
    have hny:ys.length=n:=by
     rw [HN.out]
     cases xss with
     | nil=>simp at hlt
     | cons z t=>simp at hy;rw [hy];rfl
    obtain ⟨vx,hvx,hcx⟩:=hcell j xs hx
    obtain ⟨vy,hvy,hcy⟩:=hcell 0 ys hy
    rw [Nat.add_zero] at hcy
    obtain ⟨ax,cx,rfl,-,-,-,-,-⟩:=Ints.open hvx
    obtain ⟨ay,cy,rfl,-,-,-,-,-⟩:=Ints.open hvy
    rw [hny] at hcy
    have g1:=hE.cell hcx
    have g2:=hE.cell hcy
    have HX:=Lib.hid (Ints.ext hvx hE)
    have HDS:Hid (tabE xss=if 12<xs.length then 4 else if xs.length=n then (if xs.any (fun x=>!fitB x) then 4 else tabR n (xss.drop (j+1))) else 5):=by
     unfold Hid;rw [HD.out,drop_cons hx];rfl
    have hpos:0<xss.length:=by omega
    have HANY:=Lib.hid (fun W he=>containsRow_any xs _ 105 #[] (fun x=>!fitB x) W (HX.out.ext (w':=W) he) (enters_of Tryz.func105 (by kernel_rfl) rfl) (fun W x _ _=>(great_any x W).mono fun _ _ ⟨he,hw⟩=>⟨he,hw▸Ext.refl _⟩))
    clear hcell hx hy hny hvx hvy hcx hcy hE
    by_cases q1:12<xs.length
    ·have q2:(12:Int)<(xs.length:Int):=by omega
     rw [if_pos q1] at HDS
     go_wp2_with fail
     go_ret
     exact ⟨by rw [HDS.out];rfl,HE.out⟩
    ·have q2:¬ (12:Int)<(xs.length:Int):=by omega
     rw [if_neg q1] at HDS
     by_cases q3:xs.length=n
     ·rw [if_pos q3] at HDS
      have q4:((xs.length:Int) != (n:Int))=false:=by simp [q3]
      cases hany:xs.any (fun x=>!fitB x) with
      | true =>
       rw [hany,if_pos rfl] at HDS
       rw [hany] at HANY
       clear q3 hany
       go_wp2_with fail
       refine (HANY.out _ (Ext.refl _)).mono ?_
       rintro e w1 ⟨rfl,hE1⟩
       have HE1:=Lib.hid (Ext.trans HE.out hE1)
       clear hE1 HANY
       go_wp2_with fail
       go_ret
       exact ⟨by rw [HDS.out];rfl,HE1.out⟩
      | false =>
       rw [hany,if_neg Bool.false_ne_true] at HDS
       rw [hany] at HANY
       clear q3 hany
       go_wp2_with fail
       refine (HANY.out _ (Ext.refl _)).mono ?_
       rintro e w1 ⟨rfl,hE1⟩
       have HE1:=Lib.hid (Ext.trans HE.out hE1)
       clear hE1 HANY
       go_wp2_with fail
       go_roundw
       case rel=>exact ⟨j+1,by omega,by go_num,HE1.out,HDS.out⟩
       case measure=>simp [intOf];omega
     ·rw [if_neg q3] at HDS
      have q4:((xs.length:Int) != (n:Int))=true:=by simp;omega
      clear q3
      go_wp2_with fail
      go_ret
      exact ⟨by rw [HDS.out];rfl,HE.out⟩
   ·obtain rfl:j=xss.length:=by omega
    have HF:Hid (tabE xss=0):=by unfold Hid;rw [HD.out,List.drop_length];rfl
    clear HD hE
    go_wp2_with fail
    go_ret
    exact ⟨by rw [HF.out];rfl,HE.out⟩
def colsN (xss:List (List Int)):Nat:=(xss.headD []).length
theorem tabR_zero (n:Nat):∀ xss,tabR n xss=0→∀ r∈xss,r.length=n∧r.length≤12∧∀ x∈r,-1000000000≤x∧x≤1000000000
 | [],_,r,hr=>by simp at hr
 | q::l,h,r,hr=>by
  unfold tabR at h
  split at h
  ·cases h
  ·split at h
   ·split at h
    ·cases h
    ·rename_i h1 h2 h3
     rcases List.mem_cons.1 hr with rfl | hr
     ·refine ⟨h2,by omega,fun x hx=>?_⟩
      rw [← fitB_iff]
      simp only [List.any_eq_true,Bool.not_eq_true',not_exists,not_and,Bool.not_eq_false] at h3
      exact h3 x hx
     ·exact tabR_zero n l h r hr
   ·cases h
theorem tabE_zero {xss:List (List Int)} (h:tabE xss=0):xss.length≤12∧∀ r∈xss,r.length=colsN xss∧r.length≤12∧∀ x∈r,-1000000000≤x∧x≤1000000000:=by
 unfold tabE at h
 split at h
 ·cases h
 ·exact ⟨by omega,tabR_zero _ xss h⟩
theorem rowsTo_matQ (xss:List (List Int)):rowsTo xss (fun _=>[]) xss.length=matQ xss:=by
 unfold rowsTo matQ
 apply List.ext_getElem
 ·simp
 ·intro i h1 h2
  simp only [List.length_map,List.length_range] at h1
  simp [h1]
set_option maxRecDepth 100000 in
set_option maxHeartbeats 1000000 in
theorem columns_any (xss:List (List Int)) (v:Value) (w:World) (h:Rows2 w v xss) :
  Calls Tryz.prog 106 #[v] w fun e w'=>e=.returned (.int .i64 (colsN xss:Int))∧w=w':=by
 obtain ⟨a,c,rfl,h1,h2,-,hc⟩:=inCell.open h
 clear h
 unfold maxLen at h2
 cases xss with
 | nil =>
  clear hc
  go_enter Tryz.func106,Tryz.ntmps106
  go_wp2
  go_ret
  exact ⟨rfl,rfl⟩
 | cons r l =>
  obtain ⟨b,off,rfl,hb,hcell⟩:=hc (by simp)
  obtain ⟨vx,hvx,hcx⟩:=hcell 0 r rfl
  obtain ⟨ax,cx,rfl,-,-,-,-,-⟩:=Ints.open hvx
  rw [Nat.add_zero] at hcx
  obtain ⟨m,hm⟩:∃ m,m=(r::l).length:=⟨_,rfl⟩
  have hq:((m:Int) == 0)=false:=by rw [beq_eq_false_iff_ne,hm,List.length_cons];omega
  have hpos:(0:Int)<(m:Int):=by rw [hm,List.length_cons];omega
  have HCN:Hid (colsN (r::l)=r.length):=rfl
  rw [← hm] at h1 ⊢
  clear hc hcell hvx hm
  go_enter Tryz.func106,Tryz.ntmps106
  go_wp2
  go_ret
  rw [HCN.out]
  exact ⟨rfl,rfl⟩
set_option maxRecDepth 100000 in
set_option maxHeartbeats 1000000 in
theorem reduce_zero (v:Value) (w:World) (hv:∃ a n c,v=.slice a n c) :
  Calls Tryz.prog 109 #[v,.int .i64 0] w fun e w'=>e=.returned (.tuple #[.slice none 0 0,ratV 1])∧Ext w w':=by
 obtain ⟨a,n,c,rfl⟩:=hv
 obtain ⟨W1,hW1,hE1,hs1,hb1⟩:=box2 w (.string ⟨#[]⟩) (.string ⟨#[]⟩) 152
 have HE1:=Lib.hid hE1
 have HB1:Hid (∀ W,Ext W1 W→BlkR w.heap.size W):=fun W hW=>BlkR.ext ⟨_,_,hb1⟩ hW
 obtain ⟨r0,r1,rf⟩:=block2_cell hb1
 clear hE1 hb1 rf
 go_enter Tryz.func109,Tryz.ntmps109
 go_wp2_with fail
 refine (tone_any _).mono ?_
 rintro e w2 ⟨rfl,hE2⟩
 have HE2:=Lib.hid hE2
 obtain ⟨q0,q1,t0,t1,f0,f1⟩:=(HB1.out _ hE2).open
 have hbx:=(HB1.out _ hE2)
 rw [ratV_one]
 have HBQ:Hid (BoxQ ((w2.setCell ⟨w.heap.size,0,none⟩ (.string ⟨#[49]⟩)).setCell ⟨w.heap.size,1,none⟩ (.string ⟨#[49]⟩)) w.heap.size 1):=by
  have:=hbx.res (x:=.string ⟨#[49]⟩) (y:=.string ⟨#[49]⟩)
  unfold Hid BoxQ
  rw [this]
  show some (Obj.cells #[.string ⟨#[49]⟩,.string ⟨#[49]⟩] 152 (0,0))=some (Obj.cells #[.string (intB 1),.string (numB 1)] 152 (0,0))
  rw [intB_one,numB_one]
 have HX:Hid (Ext w ((w2.setCell ⟨w.heap.size,0,none⟩ (.string ⟨#[49]⟩)).setCell ⟨w.heap.size,1,none⟩ (.string ⟨#[49]⟩))):=ext_set2 (HE1.out.trans hE2) (Nat.le_refl _)
 clear hE2 hbx r0 r1
 go_wp2_with fail
 clear q0 q1 t0 t1 f0 f1
 refine wp_loop_once ?_
 obtain ⟨W3,hW3⟩:∃ W3,W3=((w2.setCell ⟨w.heap.size,0,none⟩ (.string ⟨#[49]⟩)).setCell ⟨w.heap.size,1,none⟩ (.string ⟨#[49]⟩)):=⟨_,rfl⟩
 rw [← hW3] at HBQ HX ⊢
 clear hW3
 obtain ⟨b0,b1,b2,b3⟩:=HBQ.out.cells
 rw [show (1:Rat).num=1 from rfl,intB_one] at b0
 rw [show (1:Rat).den=1 from rfl,numB_one] at b1
 have HSET:=Lib.hid ((HBQ.out.ext (Ext.drew W3)).set 1)
 have HX2:Hid (Ext w ((W3.drew.setCell ⟨w.heap.size,0,none⟩ (.string ⟨#[49]⟩)).setCell ⟨w.heap.size,1,none⟩ (.string ⟨#[49]⟩))):=ext_set2 (HX.out.trans (Ext.drew _)) (Nat.le_refl _)
 rw [show (1:Rat).num=1 from rfl,show (1:Rat).den=1 from rfl,intB_one,numB_one] at HSET
 go_wp2_with fail
 go_region
 all_goals
  go_wp2_with fail
  refine bodyPost_ret (results_tmp_cell (by rfl) _ _ w.heap.size 152 #[.string (intB 1),.string (numB 1)] (0,0) _ (.slice none 0 0) (by rfl) (by rfl) HSET.out Tryz.underlying152 (by rfl) (by kernel_rfl)) (by rfl) ⟨rfl,HX2.out⟩
theorem RowsO.toMat {e:TypeId} {w:World} {ob base:Nat} {u:Value} {tags:List (Nat×Nat)} {m:List (List Rat)} (h:RowsO ratK e w ob base u tags m) (hob:base≤ob) (hpos:0<m.length) :
  ∃ g cap,u=.slice (some ⟨g,0,none⟩) m.length cap∧MatQ w g tags m∧m.length≤cap∧cap≤9223372036854775807∧∀ b,blocksQ g tags b→base≤b:=by
 obtain ⟨g,cap,rfl,-⟩:=owns_shape h.own hpos
 obtain ⟨h1,h2,h3,h4⟩:=h.matQ hob
 exact ⟨g,cap,rfl,h1,h2,h3,h4⟩
theorem RowsO.form {α:Type} {K:RowKind α} {e:TypeId} {w:World} {ob base:Nat} {u:Value} {tags:List (Nat×Nat)} {m:List (List α)} (h:RowsO K e w ob base u tags m):∃ a n c,u=.slice a n c:=by
 rcases h.own.2 with ⟨rfl,hn⟩ | ⟨g,cap,cur,rfl,hb,hg,h1,h2,h3,h4⟩
 ·exact ⟨_,_,_,rfl⟩
 ·exact ⟨_,_,_,rfl⟩
structure RedOk (wb w1 w':World) (u v:Value) (tags0:List (Nat×Nat)) (m:List (List Rat)) (n:Nat):Prop where
 lead:OwnI w1.heap.size w' v (redTo m n).lead
 ext:Ext wb w'
 low:wb.heap.size≤w1.heap.size
 keep:GrownS (fun b=>b∈tags0.map (·.1)∨u.ownBlock=some b) w1 w'
 mat:m≠[]→∃ g tags cap,u=.slice (some ⟨g,0,none⟩) m.length cap∧MatQ w' g tags (redTo m n).m∧m.length≤cap∧cap≤9223372036854775807∧∀ b,blocksQ g tags b→wb.heap.size≤b
theorem reduceRows_any (m:List (List Rat)) (n C:Nat) (u:Value) (tags:List (Nat×Nat)) (wb w1:World) (hO:RowsO ratK 197 w1 wb.heap.size wb.heap.size u tags m) (hwb:Ext wb w1) (hC:Rect C m) (hn:n≤C) (hC2:C≤1000) (hl:m.length≤1000)
  (hok:∀ c,c<n→AllRS 2500 (redTo m c).m∧RS 9000 (redTo m c).det) (ht:Pow10 wb) (hz:m=[]→n=0) :
  Calls Tryz.prog 109 #[u,.int .i64 (n:Int)] w1 fun e w'=>∃ v,e=.returned (.tuple #[v,ratV (redTo m n).det])∧RedOk wb w1 w' u v tags m n:=by
 by_cases hm:m=[]
 ·obtain rfl:=hz hm
  refine (reduce_zero u w1 hO.form).mono ?_
  rintro e w' ⟨rfl,hE⟩
  exact ⟨_,rfl,OwnI.nil _ _,hwb.trans hE,hwb.size,hE.grownS _,fun h=>absurd hm h⟩
 ·obtain ⟨g,cap,rfl,h1,h2,h3,h4⟩:=hO.toMat (Nat.le_refl _) (List.length_pos_iff.2 hm)
  refine (reduce_any m g cap n C tags wb w1 h1 hC hn hC2 hl h2 h3 hok hwb ht h4).mono ?_
  rintro e w' ⟨v,tags',rfl,k1,k2,k3,k4⟩
  exact ⟨v,rfl,k1,Below.trans hwb (k4.belowE (B:=wb.heap.size) h4 hwb.size),hwb.size,k4.weak (fun b _ hb=>by
   rcases List.mem_cons.1 hb with rfl | hb
   ·exact .inr rfl
   ·exact .inl hb),fun _=>⟨g,tags',cap,rfl,k2,h2,h3,fun b hb=>h4 b ((k3 b).1 hb)⟩⟩
end Go.Proofs.YtjlkkofmojgipaaGreatDoor
